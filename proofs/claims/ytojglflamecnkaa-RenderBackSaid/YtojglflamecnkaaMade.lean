/- isoglossref06.Made, walked: a tag of plain numbers; its rows are the call's own. As the print writes it, mended and made shorter. -/
import Derived.Test.YtojglflamecnkaaSq
import Derived.Test.YtojglflamecnkaaMadeF
namespace Go.Proofs.Ytojglflamecnkaa.P
open Go.RowKit Go.Proofs.YtojglflamecnkaaW.PrintWords Go.Proofs.YtojglflamecnkaaW.PrintLast Go.Proofs.YtojglflamecnkaaW.PrintMore
attribute [local go_sem] max2_int min2_int max_two min_two max_three min_three max_four min_four   -- for this text's walks alone
set_option linter.unusedVariables false
set_option linter.unusedSimpArgs false
open List renaming setIfInBounds_toArray → sA_, set_cons_zero → sB_, set_cons_succ → sC_
open Go.Proofs.YtojglflamecnkaaW.PrintWords renaming blk_alloc → bA_, blk_drewN → bN_, blk_drew → bD_, blk_frozen → bF_, blk_cell → bC_, pw_below_drewN → wN_, below_alloc → wA_, below_drew1 → wD_, below_set → wS_
open Go.Proofs.YtojglflamecnkaaW.PrintWords.Kd renaming R_alloc → rA_, R_drewN → rN_, R_drew → rD_, S_alloc → tA_, S_drewN → tN_, S_drew → tD_
def mD.T1 : Bool × List (List Nat × List Nat) := (true, [([], []), ([], []), ([1], [1]), ([0, 2, 0], [0, 2]), ([3], []), ([], []), ([5], [5]), ([4, 6, 4], [4, 6]), ([7], []), ([], []), ([9], [9]), ([8, 10, 8], [8, 10]), ([3, 7, 11], [3, 7, 11]), ([], []), ([13, 12, 11, 0, 1, 2, 3, 4, 5, 6, 7, 8, 9, 10, 11, 12, 13], [12, 13])])
def mD.B1 : List Nat := [0, 0, 2, 7, 15, 0, 32, 127, 255, 0, 512, 2047, 4095, 0, 16383]
theorem mD.tab1 : rtab .any (opsOf Try.f15 1) = mD.T1 := by kernel_rfl
theorem mD.bits1 : waitsOk mD.T1.2 mD.B1 = true := by kernel_rfl
def mD.T7 : Bool × List (List Nat × List Nat) := (true, [([], []), ([], []), ([1], [1]), ([], []), ([2, 3], [2, 3]), ([4], [4]), ([0, 5, 0], [0, 5]), ([6, 6, 0, 1, 2, 3, 4, 5, 6], [6])])
def mD.B7 : List Nat := [0, 0, 2, 0, 14, 30, 63, 127]
theorem mD.tab7 : rtab .any (opsOf Try.f15 7) = mD.T7 := by kernel_rfl
theorem mD.bits7 : waitsOk mD.T7.2 mD.B7 = true := by kernel_rfl
def mD.T23 : Bool × List (List Nat × List Nat) := (true, [([], []), ([0], [0]), ([], []), ([], []), ([3], [3]), ([], []), ([], []), ([5, 6], [5, 6]), ([7], [7]), ([4, 8], [4, 8]), ([2, 9, 2], [2, 9]), ([10], [10]), ([1, 11, 10], [1, 11]), ([0, 1, 2, 3, 4, 5, 6, 7, 8, 9, 10, 11, 12], []), ([13, 12, 12, 0, 1, 2, 3, 4, 5, 6, 7, 8, 9, 10, 11, 12], [12, 13])])
def mD.B23 : List Nat := [0, 1, 0, 0, 8, 0, 0, 96, 224, 504, 1020, 2044, 4095, 8191, 16383]
theorem mD.tab23 : rtab .any (opsOf Try.f15 23) = mD.T23 := by kernel_rfl
theorem mD.bits23 : waitsOk mD.T23.2 mD.B23 = true := by kernel_rfl
def mD.T28 : Bool × List (List Nat × List Nat) := (true, [([], []), ([0], [0]), ([], []), ([], []), ([3], [3]), ([], []), ([4, 5], [4, 5]), ([6], [6]), ([2, 7], [2, 7]), ([8], [8]), ([1, 9, 8], [1, 9]), ([0, 1, 2, 3, 4, 5, 6, 7, 8, 9, 10], []), ([11, 10, 10, 0, 1, 2, 3, 4, 5, 6, 7, 8, 9, 10], [10, 11])])
def mD.B28 : List Nat := [0, 1, 0, 0, 8, 0, 56, 120, 252, 508, 1023, 2047, 4095]
theorem mD.tab28 : rtab .any (opsOf Try.f15 28) = mD.T28 := by kernel_rfl
theorem mD.bits28 : waitsOk mD.T28.2 mD.B28 = true := by kernel_rfl
set_option maxHeartbeats 8000000 in
set_option maxRecDepth 100000 in
theorem r6_Made.calls (k : Nat) (aj : Int) (af : Int) (ai : Int) (ah : Int) (ax : Option Addr) (ar : Nat) (ad : List Int) (ay : Option Addr) (au : Nat) (ae : List Int) (aw : Option Addr) (av : Nat) (ag : List Int) (ak : Int) (r1 : ByteArray) (r2 : List ByteArray) (r3 : ByteArray) (r4 : ByteArray) (r5 : List ByteArray) (r6 : List (S62)) (r7 : List ByteArray) (r8 : ByteArray) (w : World) (hr0_4 : Kd.C (Kd.int .i64) w ax ad.length ad) (hc0_4 : ad.length ≤ ar) (hr0_5 : Kd.C (Kd.int .i64) w ay ae.length ae) (hc0_5 : ae.length ≤ au) (hr0_6 : Kd.C (Kd.int .i64) w aw ag.length ag) (hc0_6 : ag.length ≤ av) (h : r6_Made.f k aj af ai ah ad ae ag ak = some (r1, r2, r3, r4, r5, r6, r7, r8)) :
  Calls Try.prog 15 #[.agg #[.int .i64 aj, .int .i64 af, .int .i64 ai, .int .i64 ah, .slice ax ad.length ar, .slice ay ae.length au, .slice aw ag.length av, .int .i64 ak]] w fun e w' => ∃ v1_ v4_ v5_ v6_ : Value, e = .returned (.agg #[.string r1, v1_, .string r3, .string r4, v4_, v5_, v6_, .string r8]) ∧ Kd.R Kd.string 9 w' w.heap.size (fun k_ => some k_ ≠ (v4_ : Value).ownBlock ∧ some k_ ≠ (v6_ : Value).ownBlock) v1_ r2 ∧ Kd.R Kd.string 9 w' w.heap.size (fun k_ => some k_ ≠ (v1_ : Value).ownBlock ∧ some k_ ≠ (v6_ : Value).ownBlock) v4_ r5 ∧ Kd.S k62 62 w' w.heap.size (fun k_ => some k_ ≠ (v1_ : Value).ownBlock ∧ some k_ ≠ (v4_ : Value).ownBlock ∧ some k_ ≠ (v6_ : Value).ownBlock) v5_ r6 ∧ Kd.R Kd.string 9 w' w.heap.size (fun k_ => some k_ ≠ (v1_ : Value).ownBlock ∧ some k_ ≠ (v4_ : Value).ownBlock) v6_ r7 ∧ Below w.heap.size w w' := by
 have hu31 := Try.underlying31
 have hu34 := Try.underlying34
 have hu62 := Try.underlying62
 have eU := Aside0.mk hr0_4
 have fW := Aside0.mk hc0_4
 clear hr0_4 hc0_4
 have eV := Aside0.mk hr0_5
 have fX := Aside0.mk hc0_5
 clear hr0_5 hc0_5
 have eW := Aside0.mk hr0_6
 have fY := Aside0.mk hc0_6
 clear hr0_6 hc0_6
 have HB := Aside0.mk (Below.refl w.heap.size w)
 have H : ((r6_langs.f).bind fun aW => ((r6_Pick.f aW aj).bind fun al => ((r6_scripts.f).bind fun aZ => ((r6_Pick.f aZ ai).bind fun ap => ((r6_regions.f).bind fun a2 => ((r6_Pick.f a2 ah).bind fun aq => (if (al.size : Int) ≤ 3 then (mD.j0 k ((Int.tmod af 4) == 1) aj af ai ah ad ae ag ak al ap aq (⟨#[]⟩ : ByteArray)) else (mD.j0 k false aj af ai ah ad ae ag ak al ap aq (⟨#[]⟩ : ByteArray))))))))) = some (r1, r2, r3, r4, r5, r6, r7, r8) := h
 clear h
 replace H := Option.bind_eq_some_iff.mp H
 obtain ⟨aW, fZ, H⟩ := H
 replace H : ((r6_Pick.f aW aj).bind fun al => ((r6_scripts.f).bind fun aZ => ((r6_Pick.f aZ ai).bind fun ap => ((r6_regions.f).bind fun a2 => ((r6_Pick.f a2 ah).bind fun aq => (if (al.size : Int) ≤ 3 then (mD.j0 k ((Int.tmod af 4) == 1) aj af ai ah ad ae ag ak al ap aq (⟨#[]⟩ : ByteArray)) else (mD.j0 k false aj af ai ah ad ae ag ak al ap aq (⟨#[]⟩ : ByteArray)))))))) = some (r1, r2, r3, r4, r5, r6, r7, r8) := H
 have A2 := Aside0.mk fZ
 clear fZ
 replace H := Option.bind_eq_some_iff.mp H
 obtain ⟨al, f0, H⟩ := H
 replace H : ((r6_scripts.f).bind fun aZ => ((r6_Pick.f aZ ai).bind fun ap => ((r6_regions.f).bind fun a2 => ((r6_Pick.f a2 ah).bind fun aq => (if (al.size : Int) ≤ 3 then (mD.j0 k ((Int.tmod af 4) == 1) aj af ai ah ad ae ag ak al ap aq (⟨#[]⟩ : ByteArray)) else (mD.j0 k false aj af ai ah ad ae ag ak al ap aq (⟨#[]⟩ : ByteArray))))))) = some (r1, r2, r3, r4, r5, r6, r7, r8) := H
 have A3 := Aside0.mk f0
 clear f0
 replace H := Option.bind_eq_some_iff.mp H
 obtain ⟨aZ, f1, H⟩ := H
 replace H : ((r6_Pick.f aZ ai).bind fun ap => ((r6_regions.f).bind fun a2 => ((r6_Pick.f a2 ah).bind fun aq => (if (al.size : Int) ≤ 3 then (mD.j0 k ((Int.tmod af 4) == 1) aj af ai ah ad ae ag ak al ap aq (⟨#[]⟩ : ByteArray)) else (mD.j0 k false aj af ai ah ad ae ag ak al ap aq (⟨#[]⟩ : ByteArray)))))) = some (r1, r2, r3, r4, r5, r6, r7, r8) := H
 have A4 := Aside0.mk f1
 clear f1
 replace H := Option.bind_eq_some_iff.mp H
 obtain ⟨ap, f2, H⟩ := H
 replace H : ((r6_regions.f).bind fun a2 => ((r6_Pick.f a2 ah).bind fun aq => (if (al.size : Int) ≤ 3 then (mD.j0 k ((Int.tmod af 4) == 1) aj af ai ah ad ae ag ak al ap aq (⟨#[]⟩ : ByteArray)) else (mD.j0 k false aj af ai ah ad ae ag ak al ap aq (⟨#[]⟩ : ByteArray))))) = some (r1, r2, r3, r4, r5, r6, r7, r8) := H
 have A5 := Aside0.mk f2
 clear f2
 replace H := Option.bind_eq_some_iff.mp H
 obtain ⟨a2, e9, H⟩ := H
 replace H : ((r6_Pick.f a2 ah).bind fun aq => (if (al.size : Int) ≤ 3 then (mD.j0 k ((Int.tmod af 4) == 1) aj af ai ah ad ae ag ak al ap aq (⟨#[]⟩ : ByteArray)) else (mD.j0 k false aj af ai ah ad ae ag ak al ap aq (⟨#[]⟩ : ByteArray)))) = some (r1, r2, r3, r4, r5, r6, r7, r8) := H
 have A6 := Aside0.mk e9
 clear e9
 replace H := Option.bind_eq_some_iff.mp H
 obtain ⟨aq, f3, H⟩ := H
 replace H : (if (al.size : Int) ≤ 3 then (mD.j0 k ((Int.tmod af 4) == 1) aj af ai ah ad ae ag ak al ap aq (⟨#[]⟩ : ByteArray)) else (mD.j0 k false aj af ai ah ad ae ag ak al ap aq (⟨#[]⟩ : ByteArray))) = some (r1, r2, r3, r4, r5, r6, r7, r8) := H
 have A7 := Aside0.mk f3
 clear f3
 have fa := Aside0.mk H
 clear H
 go_enter Try.func15, Try.ntmps15
 try go_wp2_with (first | ((with_reducible refine gate_dst (N := 1) rfl ?_); refine box_event ?hg (N := 1) ?hd (cs := #[.int .i64 aj, .int .i64 af, .int .i64 ai, .int .i64 ah, .slice ax ad.length ar, .slice ay ae.length au, .slice aw ag.length av, .int .i64 ak]) (t := 31) ?hr ?_; (case hd => rfl); (case hg => rfl); (case hr => first | (go_simp; done) | (go_simp; rfl)); intro ab hg w9 hbox hb; have aD := Aside0.mk (below_step (Qw HB.out) hb); have aE := Aside0.mk (hbox); have aG := Aside0.mk ((by rw [hg]; exact (below_size (Qw HB.out)) : w.heap.size ≤ ab)); have aH := Aside0.mk ((by rw [hg]; exact (below_size (Qw HB.out)) : w.heap.size ≤ ab)); clear HB; have HB := aD; have K1 := aE; have GW212 := aG; have az := aH; clear aD aE aG aH; clear hb hbox hg) | ((with_reducible refine gate_dst (N := 2) rfl ?_); refine box_event ?hg (N := 2) ?hd (cs := #[.string (⟨#[]⟩ : ByteArray), .slice none 0 0, .string (⟨#[]⟩ : ByteArray), .string (⟨#[]⟩ : ByteArray), .slice none 0 0, .slice none 0 0, .slice none 0 0, .string (⟨#[]⟩ : ByteArray)]) (t := 34) ?hr ?_; (case hd => rfl); (case hg => rfl); (case hr => first | (go_simp; done) | (go_simp; rfl)); intro ac hg w10 hbox hb; have aD := Aside0.mk (blk_below (g := ab) (o := .cells #[.int .i64 aj, .int .i64 af, .int .i64 ai, .int .i64 ah, .slice ax ad.length ar, .slice ay ae.length au, .slice aw ag.length av, .int .i64 ak] 31 (0, 0)) (Qb K1.out) hb); have aE := Aside0.mk (below_step (Qv HB.out az.out) hb); have aG := Aside0.mk (hbox); have aH := Aside0.mk ((by rw [hg]; exact (below_size (Qv HB.out az.out)) : w.heap.size ≤ ac)); have aJ := Aside0.mk ((by rw [hg]; exact (below_size (Qv HB.out az.out)) : w.heap.size ≤ ac)); have aQ := Aside0.mk ((by rw [hg]; exact Nat.ne_of_lt (blk_lt (g := ab) (o := .cells #[.int .i64 aj, .int .i64 af, .int .i64 ai, .int .i64 ah, .slice ax ad.length ar, .slice ay ae.length au, .slice aw ag.length av, .int .i64 ak] 31 (0, 0)) (Qb K1.out)) : ab ≠ ac)); have aR := Aside0.mk ((by rw [hg]; exact Nat.ne_of_gt (blk_lt (g := ab) (o := .cells #[.int .i64 aj, .int .i64 af, .int .i64 ai, .int .i64 ah, .slice ax ad.length ar, .slice ay ae.length au, .slice aw ag.length av, .int .i64 ak] 31 (0, 0)) (Qb K1.out)) : ac ≠ ab)); clear K1; clear HB; have K1 := aD; have HB := aE; have K2 := aG; have GW213 := aH; have aC := aJ; have N12 := aQ; have N21 := aR; clear aD aE aG aH aJ aQ aR; clear hb hbox hg))
 have aD := Aside0.mk (bD_ K1.out)
 have aE := Aside0.mk (bD_ K2.out)
 have aG := Aside0.mk (wD_ HB.out)
 clear K1 K2 HB
 have K1 := aD; have K2 := aE; have HB := aG
 clear aD aE aG
 refine start_ (n := 15) (S := fun w' => SS_ ab aj af ai ah ax ad ar ay ae au aw ag av ak w') (ds := []) #[false, false, false, false, false, false, false, false, false, false, false, false, false, false, false] (by kernel_rfl) rfl rfl (C8_ K1.out) (fun hHeld => ?_); refine with_tabW mD.tab1 mD.bits1 (fun HT_ HW_ => ?_)
 generalize w10.drew = w11 at K1 K2 HB hHeld ⊢
 refine pu_ (i := 1) (N := some 14) HT_ (bl_ 15 2) ?_
 refine pu_ (i := 5) (N := some 18) HT_ (bl_ 15 34) ?_
 refine pu_ (i := 9) (N := some 22) HT_ (bl_ 15 546) ?_
 refine tk_ (i := 2) (N := some 15) HT_ HW_ (bl_ 15 550) hHeld ?_ (hy := by rintro w' ⟨s0, s1, s2, s3, s4, s5, s6, s7⟩; go_simp; with_reducible rfl)
 refine tk_ (i := 6) (N := some 19) HT_ HW_ (bl_ 15 614) hHeld ?_ (hy := by rintro w' ⟨s0, s1, s2, s3, s4, s5, s6, s7⟩; go_simp; with_reducible rfl)
 refine tk_ (i := 10) (N := some 23) HT_ HW_ (bl_ 15 1638) hHeld ?_ (hy := by rintro w' ⟨s0, s1, s2, s3, s4, s5, s6, s7⟩; go_simp; with_reducible rfl)
 refine join_ (σ := Value × Value × Value × Nat) 1 #[true, true, true, true, true, true, true, true, true, true, true, true, true, true, false] (fun s_ => [(13, s_.1), (16, .string al), (17, s_.2.1), (20, .string ap), (21, s_.2.2.1), (24, .string aq), (3, .pointer (some ⟨s_.2.2.2, 0, none⟩)), (25, .agg #[.string al, .slice none 0 0, .string ap, .string aq, .slice none 0 0, .slice none 0 0, .slice none 0 0, .string (⟨#[]⟩ : ByteArray)])]) (fun s_ w' => (SS_ ab aj af ai ah ax ad ar ay ae au aw ag av ak w') ∧ (Kd.R Kd.string 9 w' w.heap.size (fun k_ => some k_ ≠ (s_.2.1 : Value).ownBlock ∧ some k_ ≠ (s_.2.2.1 : Value).ownBlock) s_.1 aW) ∧ (Kd.R Kd.string 9 w' w.heap.size (fun k_ => some k_ ≠ (s_.1 : Value).ownBlock ∧ some k_ ≠ (s_.2.2.1 : Value).ownBlock) s_.2.1 aZ) ∧ (Kd.R Kd.string 9 w' w.heap.size (fun k_ => some k_ ≠ (s_.1 : Value).ownBlock ∧ some k_ ≠ (s_.2.1 : Value).ownBlock) s_.2.2.1 a2) ∧ (w'.heap[ab]? = some (.cells #[.int .i64 aj, .int .i64 af, .int .i64 ai, .int .i64 ah, .slice ax ad.length ar, .slice ay ae.length au, .slice aw ag.length av, .int .i64 ak] 31 (0, 0))) ∧ (w'.heap[ac]? = some (.cells zT_ 34 (0, 0))) ∧ (w'.heap[s_.2.2.2]? = some (.cells zT_ 34 (0, 0))) ∧ (w.heap.size ≤ s_.2.2.2) ∧ (w.heap.size ≤ s_.2.2.2) ∧ (ab ≠ s_.2.2.2) ∧ (s_.2.2.2 ≠ ab) ∧ (ac ≠ s_.2.2.2) ∧ (s_.2.2.2 ≠ ac) ∧ (Below w.heap.size w w')) ?_ ?_
 rotate_left
 ·intro hj0
  refine join_ (σ := Value × Value × Value) 2 #[true, true, true, true, true, true, true, true, true, true, true, true, true, false, false] (fun s_ => [(13, s_.1), (16, .string al), (17, s_.2.1), (20, .string ap), (21, s_.2.2), (24, .string aq), (25, .agg #[.string al, .slice none 0 0, .string ap, .string aq, .slice none 0 0, .slice none 0 0, .slice none 0 0, .string (⟨#[]⟩ : ByteArray)])]) (fun s_ w' => (SS_ ab aj af ai ah ax ad ar ay ae au aw ag av ak w') ∧ (Kd.R Kd.string 9 w' w.heap.size (fun k_ => some k_ ≠ (s_.2.1 : Value).ownBlock ∧ some k_ ≠ (s_.2.2 : Value).ownBlock) s_.1 aW) ∧ (Kd.R Kd.string 9 w' w.heap.size (fun k_ => some k_ ≠ (s_.1 : Value).ownBlock ∧ some k_ ≠ (s_.2.2 : Value).ownBlock) s_.2.1 aZ) ∧ (Kd.R Kd.string 9 w' w.heap.size (fun k_ => some k_ ≠ (s_.1 : Value).ownBlock ∧ some k_ ≠ (s_.2.1 : Value).ownBlock) s_.2.2 a2) ∧ (w'.heap[ab]? = some (.cells #[.int .i64 aj, .int .i64 af, .int .i64 ai, .int .i64 ah, .slice ax ad.length ar, .slice ay ae.length au, .slice aw ag.length av, .int .i64 ak] 31 (0, 0))) ∧ (w'.heap[ac]? = some (.cells zT_ 34 (0, 0))) ∧ (Below w.heap.size w w')) ?_ ?_
  rotate_left
  ·intro hj2
   refine join_ (σ := Value × Value × Value × Nat) 3 #[true, true, true, true, true, true, true, true, true, true, true, false, false, true, false] (fun s_ => [(13, s_.1), (16, .string al), (17, s_.2.1), (20, .string ap), (21, s_.2.2.1), (3, .pointer (some ⟨s_.2.2.2, 0, none⟩))]) (fun s_ w' => (SS_ ab aj af ai ah ax ad ar ay ae au aw ag av ak w') ∧ (Kd.R Kd.string 9 w' w.heap.size (fun k_ => some k_ ≠ (s_.2.1 : Value).ownBlock ∧ some k_ ≠ (s_.2.2.1 : Value).ownBlock) s_.1 aW) ∧ (Kd.R Kd.string 9 w' w.heap.size (fun k_ => some k_ ≠ (s_.1 : Value).ownBlock ∧ some k_ ≠ (s_.2.2.1 : Value).ownBlock) s_.2.1 aZ) ∧ (Kd.R Kd.string 9 w' w.heap.size (fun k_ => some k_ ≠ (s_.1 : Value).ownBlock ∧ some k_ ≠ (s_.2.1 : Value).ownBlock) s_.2.2.1 a2) ∧ (w'.heap[ab]? = some (.cells #[.int .i64 aj, .int .i64 af, .int .i64 ai, .int .i64 ah, .slice ax ad.length ar, .slice ay ae.length au, .slice aw ag.length av, .int .i64 ak] 31 (0, 0))) ∧ (w'.heap[ac]? = some (.cells zT_ 34 (0, 0))) ∧ (w'.heap[s_.2.2.2]? = some (.cells zT_ 34 (0, 0))) ∧ (w.heap.size ≤ s_.2.2.2) ∧ (w.heap.size ≤ s_.2.2.2) ∧ (ab ≠ s_.2.2.2) ∧ (s_.2.2.2 ≠ ab) ∧ (ac ≠ s_.2.2.2) ∧ (s_.2.2.2 ≠ ac) ∧ (Below w.heap.size w w')) ?_ ?_
   rotate_left
   ·intro hj1
    refine join_ (σ := Value × Value × Value) 4 #[true, true, true, true, true, true, true, true, true, true, true, false, false, false, false] (fun s_ => [(13, s_.1), (16, .string al), (17, s_.2.1), (20, .string ap), (21, s_.2.2)]) (fun s_ w' => (SS_ ab aj af ai ah ax ad ar ay ae au aw ag av ak w') ∧ (Kd.R Kd.string 9 w' w.heap.size (fun k_ => some k_ ≠ (s_.2.1 : Value).ownBlock ∧ some k_ ≠ (s_.2.2 : Value).ownBlock) s_.1 aW) ∧ (Kd.R Kd.string 9 w' w.heap.size (fun k_ => some k_ ≠ (s_.1 : Value).ownBlock ∧ some k_ ≠ (s_.2.2 : Value).ownBlock) s_.2.1 aZ) ∧ (Kd.R Kd.string 9 w' w.heap.size (fun k_ => some k_ ≠ (s_.1 : Value).ownBlock ∧ some k_ ≠ (s_.2.1 : Value).ownBlock) s_.2.2 a2) ∧ (w'.heap[ab]? = some (.cells #[.int .i64 aj, .int .i64 af, .int .i64 ai, .int .i64 ah, .slice ax ad.length ar, .slice ay ae.length au, .slice aw ag.length av, .int .i64 ak] 31 (0, 0))) ∧ (w'.heap[ac]? = some (.cells zT_ 34 (0, 0))) ∧ (Below w.heap.size w w')) ?_ ?_
    rotate_left
    ·intro hj4
     refine join_ (σ := Value × Value × Nat) 4 #[true, true, true, true, true, true, true, true, false, true, true, false, false, true, false] (fun s_ => [(13, s_.1), (16, .string al), (17, s_.2.1), (20, .string ap), (3, .pointer (some ⟨s_.2.2, 0, none⟩))]) (fun s_ w' => (SS_ ab aj af ai ah ax ad ar ay ae au aw ag av ak w') ∧ (Kd.R Kd.string 9 w' w.heap.size (fun k_ => some k_ ≠ (s_.2.1 : Value).ownBlock) s_.1 aW) ∧ (Kd.R Kd.string 9 w' w.heap.size (fun k_ => some k_ ≠ (s_.1 : Value).ownBlock) s_.2.1 aZ) ∧ (w'.heap[ab]? = some (.cells #[.int .i64 aj, .int .i64 af, .int .i64 ai, .int .i64 ah, .slice ax ad.length ar, .slice ay ae.length au, .slice aw ag.length av, .int .i64 ak] 31 (0, 0))) ∧ (w'.heap[ac]? = some (.cells zT_ 34 (0, 0))) ∧ (w'.heap[s_.2.2]? = some (.cells zT_ 34 (0, 0))) ∧ (w.heap.size ≤ s_.2.2) ∧ (w.heap.size ≤ s_.2.2) ∧ (ab ≠ s_.2.2) ∧ (s_.2.2 ≠ ab) ∧ (ac ≠ s_.2.2) ∧ (s_.2.2 ≠ ac) ∧ (Below w.heap.size w w')) ?_ ?_
     rotate_left
     ·intro hj3
      refine join_ (σ := Value × Value) 5 #[true, true, true, true, true, true, true, true, false, true, true, false, false, false, false] (fun s_ => [(13, s_.1), (16, .string al), (17, s_.2), (20, .string ap)]) (fun s_ w' => (SS_ ab aj af ai ah ax ad ar ay ae au aw ag av ak w') ∧ (Kd.R Kd.string 9 w' w.heap.size (fun k_ => some k_ ≠ (s_.2 : Value).ownBlock) s_.1 aW) ∧ (Kd.R Kd.string 9 w' w.heap.size (fun k_ => some k_ ≠ (s_.1 : Value).ownBlock) s_.2 aZ) ∧ (w'.heap[ab]? = some (.cells #[.int .i64 aj, .int .i64 af, .int .i64 ai, .int .i64 ah, .slice ax ad.length ar, .slice ay ae.length au, .slice aw ag.length av, .int .i64 ak] 31 (0, 0))) ∧ (w'.heap[ac]? = some (.cells zT_ 34 (0, 0))) ∧ (Below w.heap.size w w')) ?_ ?_
      rotate_left
      ·intro hj6
       refine join_ (σ := Value × Value × Nat) 5 #[true, true, true, true, true, true, true, false, false, true, true, false, false, true, false] (fun s_ => [(13, s_.1), (16, .string al), (17, s_.2.1), (3, .pointer (some ⟨s_.2.2, 0, none⟩))]) (fun s_ w' => (SS_ ab aj af ai ah ax ad ar ay ae au aw ag av ak w') ∧ (Kd.R Kd.string 9 w' w.heap.size (fun k_ => some k_ ≠ (s_.2.1 : Value).ownBlock) s_.1 aW) ∧ (Kd.R Kd.string 9 w' w.heap.size (fun k_ => some k_ ≠ (s_.1 : Value).ownBlock) s_.2.1 aZ) ∧ (w'.heap[ab]? = some (.cells #[.int .i64 aj, .int .i64 af, .int .i64 ai, .int .i64 ah, .slice ax ad.length ar, .slice ay ae.length au, .slice aw ag.length av, .int .i64 ak] 31 (0, 0))) ∧ (w'.heap[ac]? = some (.cells zT_ 34 (0, 0))) ∧ (w'.heap[s_.2.2]? = some (.cells zT_ 34 (0, 0))) ∧ (w.heap.size ≤ s_.2.2) ∧ (w.heap.size ≤ s_.2.2) ∧ (ab ≠ s_.2.2) ∧ (s_.2.2 ≠ ab) ∧ (ac ≠ s_.2.2) ∧ (s_.2.2 ≠ ac) ∧ (Below w.heap.size w w')) ?_ ?_
       rotate_left
       ·intro hj5
        refine join_ (σ := Value × Value) 6 #[true, true, true, true, true, true, true, false, false, true, true, false, false, false, false] (fun s_ => [(13, s_.1), (16, .string al), (17, s_.2)]) (fun s_ w' => (SS_ ab aj af ai ah ax ad ar ay ae au aw ag av ak w') ∧ (Kd.R Kd.string 9 w' w.heap.size (fun k_ => some k_ ≠ (s_.2 : Value).ownBlock) s_.1 aW) ∧ (Kd.R Kd.string 9 w' w.heap.size (fun k_ => some k_ ≠ (s_.1 : Value).ownBlock) s_.2 aZ) ∧ (w'.heap[ab]? = some (.cells #[.int .i64 aj, .int .i64 af, .int .i64 ai, .int .i64 ah, .slice ax ad.length ar, .slice ay ae.length au, .slice aw ag.length av, .int .i64 ak] 31 (0, 0))) ∧ (w'.heap[ac]? = some (.cells zT_ 34 (0, 0))) ∧ (Below w.heap.size w w')) ?_ ?_
        rotate_left
        ·intro hj8
         refine join_ (σ := Value × Nat) 6 #[true, true, true, true, false, true, true, false, false, true, true, false, false, true, false] (fun s_ => [(13, s_.1), (16, .string al), (3, .pointer (some ⟨s_.2, 0, none⟩))]) (fun s_ w' => (SS_ ab aj af ai ah ax ad ar ay ae au aw ag av ak w') ∧ (Kd.R Kd.string 9 w' w.heap.size (fun _ => True) s_.1 aW) ∧ (w'.heap[ab]? = some (.cells #[.int .i64 aj, .int .i64 af, .int .i64 ai, .int .i64 ah, .slice ax ad.length ar, .slice ay ae.length au, .slice aw ag.length av, .int .i64 ak] 31 (0, 0))) ∧ (w'.heap[ac]? = some (.cells zT_ 34 (0, 0))) ∧ (w'.heap[s_.2]? = some (.cells zT_ 34 (0, 0))) ∧ (w.heap.size ≤ s_.2) ∧ (w.heap.size ≤ s_.2) ∧ (ab ≠ s_.2) ∧ (s_.2 ≠ ab) ∧ (ac ≠ s_.2) ∧ (s_.2 ≠ ac) ∧ (Below w.heap.size w w')) ?_ ?_
         rotate_left
         ·intro hj7
          refine join_ (σ := Value) 7 #[true, true, true, true, false, true, true, false, false, true, true, false, false, false, false] (fun s_ => [(13, s_), (16, .string al)]) (fun s_ w' => (SS_ ab aj af ai ah ax ad ar ay ae au aw ag av ak w') ∧ (Kd.R Kd.string 9 w' w.heap.size (fun _ => True) s_ aW) ∧ (w'.heap[ab]? = some (.cells #[.int .i64 aj, .int .i64 af, .int .i64 ai, .int .i64 ah, .slice ax ad.length ar, .slice ay ae.length au, .slice aw ag.length av, .int .i64 ak] 31 (0, 0))) ∧ (w'.heap[ac]? = some (.cells zT_ 34 (0, 0))) ∧ (Below w.heap.size w w')) ?_ ?_
          rotate_left
          ·intro hj10
           refine join_ (σ := Value × Nat) 7 #[true, true, true, false, false, true, true, false, false, true, true, false, false, true, false] (fun s_ => [(13, s_.1), (3, .pointer (some ⟨s_.2, 0, none⟩))]) (fun s_ w' => (SS_ ab aj af ai ah ax ad ar ay ae au aw ag av ak w') ∧ (Kd.R Kd.string 9 w' w.heap.size (fun _ => True) s_.1 aW) ∧ (w'.heap[ab]? = some (.cells #[.int .i64 aj, .int .i64 af, .int .i64 ai, .int .i64 ah, .slice ax ad.length ar, .slice ay ae.length au, .slice aw ag.length av, .int .i64 ak] 31 (0, 0))) ∧ (w'.heap[ac]? = some (.cells zT_ 34 (0, 0))) ∧ (w'.heap[s_.2]? = some (.cells zT_ 34 (0, 0))) ∧ (w.heap.size ≤ s_.2) ∧ (w.heap.size ≤ s_.2) ∧ (ab ≠ s_.2) ∧ (s_.2 ≠ ab) ∧ (ac ≠ s_.2) ∧ (s_.2 ≠ ac) ∧ (Below w.heap.size w w')) ?_ ?_
           rotate_left
           ·intro hj9
            refine join_ (σ := Value) 8 #[true, true, true, false, false, true, true, false, false, true, true, false, false, false, false] (fun s_ => [(13, s_)]) (fun s_ w' => (SS_ ab aj af ai ah ax ad ar ay ae au aw ag av ak w') ∧ (Kd.R Kd.string 9 w' w.heap.size (fun _ => True) s_ aW) ∧ (w'.heap[ab]? = some (.cells #[.int .i64 aj, .int .i64 af, .int .i64 ai, .int .i64 ah, .slice ax ad.length ar, .slice ay ae.length au, .slice aw ag.length av, .int .i64 ak] 31 (0, 0))) ∧ (w'.heap[ac]? = some (.cells zT_ 34 (0, 0))) ∧ (Below w.heap.size w w')) ?_ ?_
            rotate_left
            ·intro hJ0
             refine join_ (σ := Nat) 8 #[false, true, true, false, false, true, true, false, false, true, true, false, false, true, false] (fun s_ => [(3, .pointer (some ⟨s_, 0, none⟩))]) (fun s_ w' => (SS_ ab aj af ai ah ax ad ar ay ae au aw ag av ak w') ∧ (w'.heap[ab]? = some (.cells #[.int .i64 aj, .int .i64 af, .int .i64 ai, .int .i64 ah, .slice ax ad.length ar, .slice ay ae.length au, .slice aw ag.length av, .int .i64 ak] 31 (0, 0))) ∧ (w'.heap[ac]? = some (.cells zT_ 34 (0, 0))) ∧ (w'.heap[s_]? = some (.cells zT_ 34 (0, 0))) ∧ (w.heap.size ≤ s_) ∧ (w.heap.size ≤ s_) ∧ (ab ≠ s_) ∧ (s_ ≠ ab) ∧ (ac ≠ s_) ∧ (s_ ≠ ac) ∧ (Below w.heap.size w w')) ?_ ?_
             rotate_left
             ·intro hJ13
              refine two_ (i := 0) (j := 13) (Ni := some 13) (Nj := some 3) #[true, true, true, false, false, true, true, false, false, true, true, false, false, false, false] #[false, true, true, false, false, true, true, false, false, true, true, false, false, true, false] rfl rfl rfl rfl (two_of HT_.out (by kernel_rfl)) (by decide) (by decide) (fun K hK => ?_) (fun K hK => ?_)
              ·skip
               refine goes_ Try.func36 (by kernel_rfl) rfl #[] (by rfl) rfl rfl Qm ?_
               with_reducible refine (r6_langs.calls  aW _ A2.out).mono ?_
               rintro e w12 ⟨v215, rfl, ho0, hb⟩
               refine ⟨_, rfl, ?_⟩
               have aD := Aside0.mk (Kd.R_lower ho0 (below_size HB.out))
               have aE := Aside0.mk (blk_below (g := ab) K1.out hb)
               have aG := Aside0.mk (blk_below (g := ac) K2.out hb)
               have aH := Aside0.mk (below_step HB.out hb)
               clear K1 K2 HB
               have am := aD; have K1 := aE; have K2 := aG; have HB := aH
               clear aD aE aG aH
               (try clear hb); (try clear hb2); (try clear hk); (try clear hi); (try clear ho0)
               refine hK.out _ _ (C8_ K1.out) (fun hHeld => ?_)
               clear hK K
               refine nm_ (some 13) ?_
               exact norm_ (by first | (simp only [putAll, Act.put, sA_, sB_, sC_]; done) | (simp only [putAll, Act.put, sA_, sB_, sC_]; rfl)) (hJ0 (v215) _ ⟨hHeld, am.out, K1.out, K2.out, (by first | exact HB.out | exact wN_ HB.out _)⟩)
              ·skip
               refine box_step ?hg (N := 3) ?hd (cs := #[.string (⟨#[]⟩ : ByteArray), .slice none 0 0, .string (⟨#[]⟩ : ByteArray), .string (⟨#[]⟩ : ByteArray), .slice none 0 0, .slice none 0 0, .slice none 0 0, .string (⟨#[]⟩ : ByteArray)]) (t := 34) ?hr ?_; (case hd => rfl); (case hg => rfl); (case hr => first | (go_simp; done) | (go_simp; rfl))
               intro aa hg w12 hbox hb
               have aD := Aside0.mk (blk_below (g := ab) K1.out hb)
               have aE := Aside0.mk (blk_below (g := ac) K2.out hb)
               have aG := Aside0.mk (below_step HB.out hb)
               have aH := Aside0.mk (hbox)
               have aJ := Aside0.mk ((by rw [hg]; exact (below_size HB.out) : _ ≤ aa))
               have aQ := Aside0.mk ((by rw [hg]; exact (below_size HB.out) : _ ≤ aa))
               have aR := Aside0.mk ((by rw [hg]; exact Nat.ne_of_lt (blk_lt (g := ab) K1.out) : ab ≠ aa))
               have aY := Aside0.mk ((by rw [hg]; exact Nat.ne_of_gt (blk_lt (g := ab) K1.out) : aa ≠ ab))
               have a0 := Aside0.mk ((by rw [hg]; exact Nat.ne_of_lt (blk_lt (g := ac) K2.out) : ac ≠ aa))
               have a4 := Aside0.mk ((by rw [hg]; exact Nat.ne_of_gt (blk_lt (g := ac) K2.out) : aa ≠ ac))
               clear K1 K2 HB
               have K1 := aD; have K2 := aE; have HB := aG; have K3 := aH; have GW226 := aJ; have ao := aQ; have N13 := aR; have N31 := aY; have N23 := a0; have N32 := a4
               clear aD aE aG aH aJ aQ aR aY a0 a4 hb hbox hg
               refine hK.out _ _ (C8_ K1.out) (fun hHeld => ?_)
               clear hK K
               refine nm_ (some 3) ?_
               exact norm_ (by first | (simp only [putAll, Act.put, sA_, sB_, sC_]; done) | (simp only [putAll, Act.put, sA_, sB_, sC_]; rfl)) (hJ13 (aa) _ ⟨hHeld, K1.out, K2.out, K3.out, GW226.out, ao.out, N13.out, N31.out, N23.out, N32.out, (by first | exact HB.out | exact wN_ HB.out _)⟩)
             ·skip
              rintro aa w13 ⟨hS_, h0_, h1_, h2_, h3_, h4_, h5_, h6_, h7_, h8_, h9_⟩
              have aD : Aside0 (w13.heap[ab]? = some (.cells #[.int .i64 aj, .int .i64 af, .int .i64 ai, .int .i64 ah, .slice ax ad.length ar, .slice ay ae.length au, .slice aw ag.length av, .int .i64 ak] 31 (0, 0))) := ⟨h0_⟩
              have aE : Aside0 (w13.heap[ac]? = some (.cells zT_ 34 (0, 0))) := ⟨h1_⟩
              have aG : Aside0 (w13.heap[aa]? = some (.cells zT_ 34 (0, 0))) := ⟨h2_⟩
              have aH : Aside0 (w.heap.size ≤ aa) := ⟨h3_⟩
              have aJ : Aside0 (w.heap.size ≤ aa) := ⟨h4_⟩
              have aQ : Aside0 (ab ≠ aa) := ⟨h5_⟩
              have aR : Aside0 (aa ≠ ab) := ⟨h6_⟩
              have aY : Aside0 (ac ≠ aa) := ⟨h7_⟩
              have a0 : Aside0 (aa ≠ ac) := ⟨h8_⟩
              have a4 : Aside0 (Below w.heap.size w w13) := ⟨h9_⟩
              clear K1 K2 HB h0_ h1_ h2_ h3_ h4_ h5_ h6_ h7_ h8_ h9_
              have K1 := aD; have K2 := aE; have K3 := aG; have GW226 := aH; have ao := aJ; have N13 := aQ; have N31 := aR; have N23 := aY; have N32 := a0; have HB := a4
              clear aD aE aG aH aJ aQ aR aY a0 a4
              have hHeld : SS_ ab aj af ai ah ax ad ar ay ae au aw ag av ak w13 := hS_
              refine norm_ (a' := ?_) ?_ ?_
              rotate_left
              ·simp only [putAll, Act.put, sA_, sB_, sC_]
               rfl
              refine on_ (i := 0) (N := some 13) HT_ (bl_ 15 9831) rfl rfl (fun K hK => ?_)
              refine goes_ Try.func36 (by kernel_rfl) rfl #[] (by rfl) rfl rfl Qm ?_
              with_reducible refine (r6_langs.calls  aW _ A2.out).mono ?_
              rintro e w14 ⟨v215, rfl, ho0, hb⟩
              refine ⟨_, rfl, ?_⟩
              have aD := Aside0.mk (Kd.R_lower ho0 (below_size HB.out))
              have aE := Aside0.mk (blk_below (g := ab) K1.out hb)
              have aG := Aside0.mk (blk_below (g := ac) K2.out hb)
              have aH := Aside0.mk (blk_below (g := aa) K3.out hb)
              have aJ := Aside0.mk (below_step HB.out hb)
              clear K1 K2 K3 HB
              have am := aD; have K1 := aE; have K2 := aG; have K3 := aH; have HB := aJ
              clear aD aE aG aH aJ
              (try clear hb); (try clear hb2); (try clear hk); (try clear hi); (try clear ho0)
              refine hK.out _ _ (C8_ K1.out) (fun hHeld => ?_)
              clear hK K
              refine nm_ (some 13) ?_
              exact norm_ (by first | (simp only [putAll, Act.put, sA_, sB_, sC_]; done) | (simp only [putAll, Act.put, sA_, sB_, sC_]; rfl)) (hj9 (_, aa) _ ⟨hHeld, am.out, K1.out, K2.out, K3.out, GW226.out, ao.out, N13.out, N31.out, N23.out, N32.out, (by first | exact HB.out | exact wN_ HB.out _)⟩)
            ·skip
             rintro v215 w13 ⟨hS_, h0_, h1_, h2_, h3_⟩
             have aD : Aside0 (Kd.R Kd.string 9 w13 w.heap.size (fun _ => True) v215 aW) := ⟨h0_⟩
             have aE : Aside0 (w13.heap[ab]? = some (.cells #[.int .i64 aj, .int .i64 af, .int .i64 ai, .int .i64 ah, .slice ax ad.length ar, .slice ay ae.length au, .slice aw ag.length av, .int .i64 ak] 31 (0, 0))) := ⟨h1_⟩
             have aG : Aside0 (w13.heap[ac]? = some (.cells zT_ 34 (0, 0))) := ⟨h2_⟩
             have aH : Aside0 (Below w.heap.size w w13) := ⟨h3_⟩
             clear K1 K2 HB h0_ h1_ h2_ h3_
             have am := aD; have K1 := aE; have K2 := aG; have HB := aH
             clear aD aE aG aH
             have hHeld : SS_ ab aj af ai ah ax ad ar ay ae au aw ag av ak w13 := hS_
             obtain ⟨Ao14, co14, eo14⟩ := Kd.R_slice am.out
             (first | subst eo14 | (injection eo14 with f1_ f2_ f3_; have f4_ := f1_.symm; have f5_ := f3_.symm; clear f1_ f2_ f3_; subst f4_; subst f5_))
             refine norm_ (a' := ?_) ?_ ?_
             rotate_left
             ·simp only [putAll, Act.put, sA_, sB_, sC_]
              rfl
             refine two_ (i := 3) (j := 13) (Ni := some 16) (Nj := some 3) #[true, true, true, true, false, true, true, false, false, true, true, false, false, false, false] #[true, true, true, false, false, true, true, false, false, true, true, false, false, true, false] rfl rfl rfl rfl (two_of HT_.out (by kernel_rfl)) (by decide) (by decide) (fun K hK => ?_) (fun K hK => ?_)
             ·skip
              refine goes_ Try.func35 (by kernel_rfl) rfl #[.slice Ao14 aW.length co14, .int .i64 aj] (by rfl) rfl rfl Qm ?_
              with_reducible refine (r6_Pick.calls _ _ aW aj al _ ?side1 ?side2 A3.out).mono ?_
              (case side1 => repeat (first | exact (Kd.R_reads' am.out).2.2 | (with_reducible refine Kd.C_alloc ?_ _) | (with_reducible refine Kd.C_drewN ?_ _) | (with_reducible refine Kd.C_drew ?_)))
              (case side2 => exact (Kd.R_reads' am.out).2.1)
              rintro e w' ⟨rfl, ⟨nd, rfl⟩⟩
              refine ⟨_, rfl, ?_⟩
              refine hK.out _ _ (C8_ K1.out) (fun hHeld => ?_)
              clear hK K
              refine nm_ (some 16) ?_
              exact norm_ (by first | (simp only [putAll, Act.put, sA_, sB_, sC_]; done) | (simp only [putAll, Act.put, sA_, sB_, sC_]; rfl)) (hj10 (.slice Ao14 aW.length co14) _ ⟨hHeld, am.out, K1.out, K2.out, (by first | exact HB.out | exact wN_ HB.out _)⟩)
             ·skip
              refine box_step ?hg (N := 3) ?hd (cs := #[.string (⟨#[]⟩ : ByteArray), .slice none 0 0, .string (⟨#[]⟩ : ByteArray), .string (⟨#[]⟩ : ByteArray), .slice none 0 0, .slice none 0 0, .slice none 0 0, .string (⟨#[]⟩ : ByteArray)]) (t := 34) ?hr ?_; (case hd => rfl); (case hg => rfl); (case hr => first | (go_simp; done) | (go_simp; rfl))
              intro aa hg w14 hbox hb
              have aD := Aside0.mk (Kd.R_below am.out hb)
              have aE := Aside0.mk (blk_below (g := ab) K1.out hb)
              have aG := Aside0.mk (blk_below (g := ac) K2.out hb)
              have aH := Aside0.mk (below_step HB.out hb)
              have aJ := Aside0.mk (hbox)
              have aQ := Aside0.mk ((by rw [hg]; exact (below_size HB.out) : _ ≤ aa))
              have aR := Aside0.mk ((by rw [hg]; exact (below_size HB.out) : _ ≤ aa))
              have aY := Aside0.mk ((by rw [hg]; exact Nat.ne_of_lt (blk_lt (g := ab) K1.out) : ab ≠ aa))
              have a0 := Aside0.mk ((by rw [hg]; exact Nat.ne_of_gt (blk_lt (g := ab) K1.out) : aa ≠ ab))
              have a4 := Aside0.mk ((by rw [hg]; exact Nat.ne_of_lt (blk_lt (g := ac) K2.out) : ac ≠ aa))
              have aT := Aside0.mk ((by rw [hg]; exact Nat.ne_of_gt (blk_lt (g := ac) K2.out) : aa ≠ ac))
              clear am K1 K2 HB
              have am := aD; have K1 := aE; have K2 := aG; have HB := aH; have K3 := aJ; have GW226 := aQ; have ao := aR; have N13 := aY; have N31 := a0; have N23 := a4; have N32 := aT
              clear aD aE aG aH aJ aQ aR aY a0 a4 aT hb hbox hg
              refine hK.out _ _ (C8_ K1.out) (fun hHeld => ?_)
              clear hK K
              refine nm_ (some 3) ?_
              exact norm_ (by first | (simp only [putAll, Act.put, sA_, sB_, sC_]; done) | (simp only [putAll, Act.put, sA_, sB_, sC_]; rfl)) (hj9 (_, aa) _ ⟨hHeld, am.out, K1.out, K2.out, K3.out, GW226.out, ao.out, N13.out, N31.out, N23.out, N32.out, (by first | exact HB.out | exact wN_ HB.out _)⟩)
           ·skip
            rintro ⟨v215, aa⟩ w14 ⟨hS_, h0_, h1_, h2_, h3_, h4_, h5_, h6_, h7_, h8_, h9_, h10_⟩
            have aD : Aside0 (Kd.R Kd.string 9 w14 w.heap.size (fun _ => True) v215 aW) := ⟨h0_⟩
            have aE : Aside0 (w14.heap[ab]? = some (.cells #[.int .i64 aj, .int .i64 af, .int .i64 ai, .int .i64 ah, .slice ax ad.length ar, .slice ay ae.length au, .slice aw ag.length av, .int .i64 ak] 31 (0, 0))) := ⟨h1_⟩
            have aG : Aside0 (w14.heap[ac]? = some (.cells zT_ 34 (0, 0))) := ⟨h2_⟩
            have aH : Aside0 (w14.heap[aa]? = some (.cells zT_ 34 (0, 0))) := ⟨h3_⟩
            have aJ : Aside0 (w.heap.size ≤ aa) := ⟨h4_⟩
            have aQ : Aside0 (w.heap.size ≤ aa) := ⟨h5_⟩
            have aR : Aside0 (ab ≠ aa) := ⟨h6_⟩
            have aY : Aside0 (aa ≠ ab) := ⟨h7_⟩
            have a0 : Aside0 (ac ≠ aa) := ⟨h8_⟩
            have a4 : Aside0 (aa ≠ ac) := ⟨h9_⟩
            have aT : Aside0 (Below w.heap.size w w14) := ⟨h10_⟩
            clear K1 K2 HB h0_ h1_ h2_ h3_ h4_ h5_ h6_ h7_ h8_ h9_ h10_
            have am := aD; have K1 := aE; have K2 := aG; have K3 := aH; have GW226 := aJ; have ao := aQ; have N13 := aR; have N31 := aY; have N23 := a0; have N32 := a4; have HB := aT
            clear aD aE aG aH aJ aQ aR aY a0 a4 aT
            have hHeld : SS_ ab aj af ai ah ax ad ar ay ae au aw ag av ak w14 := hS_
            obtain ⟨Ao15, co15, eo15⟩ := Kd.R_slice am.out
            (first | subst eo15 | (injection eo15 with f1_ f2_ f3_; have f4_ := f1_.symm; have f5_ := f3_.symm; clear f1_ f2_ f3_; subst f4_; subst f5_))
            refine norm_ (a' := ?_) ?_ ?_
            rotate_left
            ·simp only [putAll, Act.put, sA_, sB_, sC_]
             rfl
            refine on_ (i := 3) (N := some 16) HT_ (bl_ 15 9839) rfl rfl (fun K hK => ?_)
            refine goes_ Try.func35 (by kernel_rfl) rfl #[.slice Ao15 aW.length co15, .int .i64 aj] (by rfl) rfl rfl Qm ?_
            with_reducible refine (r6_Pick.calls _ _ aW aj al _ ?side1 ?side2 A3.out).mono ?_
            (case side1 => repeat (first | exact (Kd.R_reads' am.out).2.2 | (with_reducible refine Kd.C_alloc ?_ _) | (with_reducible refine Kd.C_drewN ?_ _) | (with_reducible refine Kd.C_drew ?_)))
            (case side2 => exact (Kd.R_reads' am.out).2.1)
            rintro e w' ⟨rfl, ⟨nd, rfl⟩⟩
            refine ⟨_, rfl, ?_⟩
            refine hK.out _ _ (C8_ K1.out) (fun hHeld => ?_)
            clear hK K
            refine nm_ (some 16) ?_
            exact norm_ (by first | (simp only [putAll, Act.put, sA_, sB_, sC_]; done) | (simp only [putAll, Act.put, sA_, sB_, sC_]; rfl)) (hj7 (.slice Ao15 aW.length co15, aa) _ ⟨hHeld, am.out, K1.out, K2.out, K3.out, GW226.out, ao.out, N13.out, N31.out, N23.out, N32.out, (by first | exact HB.out | exact wN_ HB.out _)⟩)
          ·skip
           rintro v215 w14 ⟨hS_, h0_, h1_, h2_, h3_⟩
           have aD : Aside0 (Kd.R Kd.string 9 w14 w.heap.size (fun _ => True) v215 aW) := ⟨h0_⟩
           have aE : Aside0 (w14.heap[ab]? = some (.cells #[.int .i64 aj, .int .i64 af, .int .i64 ai, .int .i64 ah, .slice ax ad.length ar, .slice ay ae.length au, .slice aw ag.length av, .int .i64 ak] 31 (0, 0))) := ⟨h1_⟩
           have aG : Aside0 (w14.heap[ac]? = some (.cells zT_ 34 (0, 0))) := ⟨h2_⟩
           have aH : Aside0 (Below w.heap.size w w14) := ⟨h3_⟩
           clear K1 K2 HB h0_ h1_ h2_ h3_
           have am := aD; have K1 := aE; have K2 := aG; have HB := aH
           clear aD aE aG aH
           have hHeld : SS_ ab aj af ai ah ax ad ar ay ae au aw ag av ak w14 := hS_
           refine norm_ (a' := ?_) ?_ ?_
           rotate_left
           ·simp only [putAll, Act.put, sA_, sB_, sC_]
            rfl
           refine two_ (i := 4) (j := 13) (Ni := some 17) (Nj := some 3) #[true, true, true, true, true, true, true, false, false, true, true, false, false, false, false] #[true, true, true, true, false, true, true, false, false, true, true, false, false, true, false] rfl rfl rfl rfl (two_of HT_.out (by kernel_rfl)) (by decide) (by decide) (fun K hK => ?_) (fun K hK => ?_)
           ·skip
            refine goes_ Try.func37 (by kernel_rfl) rfl #[] (by rfl) rfl rfl Qm ?_
            with_reducible refine (r6_scripts.calls  aZ _ A4.out).mono ?_
            rintro e w15 ⟨v219, rfl, ho0, hb⟩
            refine ⟨_, rfl, ?_⟩
            have aD := Aside0.mk (Kd.R_elder' am.out (Kd.R_base ho0) hb)
            have aE := Aside0.mk (Kd.R_lower (Kd.R_new' ho0 (Kd.R_lt am.out)) (below_size HB.out))
            have aG := Aside0.mk (blk_below (g := ab) K1.out hb)
            have aH := Aside0.mk (blk_below (g := ac) K2.out hb)
            have aJ := Aside0.mk (below_step HB.out hb)
            clear am K1 K2 HB
            have am := aD; have aA := aE; have K1 := aG; have K2 := aH; have HB := aJ
            clear aD aE aG aH aJ
            (try clear hb); (try clear hb2); (try clear hk); (try clear hi); (try clear ho0)
            refine hK.out _ _ (C8_ K1.out) (fun hHeld => ?_)
            clear hK K
            refine nm_ (some 17) ?_
            exact norm_ (by first | (simp only [putAll, Act.put, sA_, sB_, sC_]; done) | (simp only [putAll, Act.put, sA_, sB_, sC_]; rfl)) (hj8 (v215, v219) _ ⟨hHeld, (by (with_reducible repeat (first | apply rA_ | apply rN_ | apply rD_)); exact Kd.R_mono am.out (fun _ hk => hk.2)), (by (with_reducible repeat (first | apply rA_ | apply rN_ | apply rD_)); exact Kd.R_mono aA.out (fun _ hk => hk.2)), K1.out, K2.out, (by first | exact HB.out | exact wN_ HB.out _)⟩)
           ·skip
            refine box_step ?hg (N := 3) ?hd (cs := #[.string (⟨#[]⟩ : ByteArray), .slice none 0 0, .string (⟨#[]⟩ : ByteArray), .string (⟨#[]⟩ : ByteArray), .slice none 0 0, .slice none 0 0, .slice none 0 0, .string (⟨#[]⟩ : ByteArray)]) (t := 34) ?hr ?_; (case hd => rfl); (case hg => rfl); (case hr => first | (go_simp; done) | (go_simp; rfl))
            intro aa hg w15 hbox hb
            have aD := Aside0.mk (Kd.R_below am.out hb)
            have aE := Aside0.mk (blk_below (g := ab) K1.out hb)
            have aG := Aside0.mk (blk_below (g := ac) K2.out hb)
            have aH := Aside0.mk (below_step HB.out hb)
            have aJ := Aside0.mk (hbox)
            have aQ := Aside0.mk ((by rw [hg]; exact (below_size HB.out) : _ ≤ aa))
            have aR := Aside0.mk ((by rw [hg]; exact (below_size HB.out) : _ ≤ aa))
            have aY := Aside0.mk ((by rw [hg]; exact Nat.ne_of_lt (blk_lt (g := ab) K1.out) : ab ≠ aa))
            have a0 := Aside0.mk ((by rw [hg]; exact Nat.ne_of_gt (blk_lt (g := ab) K1.out) : aa ≠ ab))
            have a4 := Aside0.mk ((by rw [hg]; exact Nat.ne_of_lt (blk_lt (g := ac) K2.out) : ac ≠ aa))
            have aT := Aside0.mk ((by rw [hg]; exact Nat.ne_of_gt (blk_lt (g := ac) K2.out) : aa ≠ ac))
            clear am K1 K2 HB
            have am := aD; have K1 := aE; have K2 := aG; have HB := aH; have K3 := aJ; have GW226 := aQ; have ao := aR; have N13 := aY; have N31 := a0; have N23 := a4; have N32 := aT
            clear aD aE aG aH aJ aQ aR aY a0 a4 aT hb hbox hg
            refine hK.out _ _ (C8_ K1.out) (fun hHeld => ?_)
            clear hK K
            refine nm_ (some 3) ?_
            exact norm_ (by first | (simp only [putAll, Act.put, sA_, sB_, sC_]; done) | (simp only [putAll, Act.put, sA_, sB_, sC_]; rfl)) (hj7 (_, aa) _ ⟨hHeld, am.out, K1.out, K2.out, K3.out, GW226.out, ao.out, N13.out, N31.out, N23.out, N32.out, (by first | exact HB.out | exact wN_ HB.out _)⟩)
         ·skip
          rintro ⟨v215, aa⟩ w15 ⟨hS_, h0_, h1_, h2_, h3_, h4_, h5_, h6_, h7_, h8_, h9_, h10_⟩
          have aD : Aside0 (Kd.R Kd.string 9 w15 w.heap.size (fun _ => True) v215 aW) := ⟨h0_⟩
          have aE : Aside0 (w15.heap[ab]? = some (.cells #[.int .i64 aj, .int .i64 af, .int .i64 ai, .int .i64 ah, .slice ax ad.length ar, .slice ay ae.length au, .slice aw ag.length av, .int .i64 ak] 31 (0, 0))) := ⟨h1_⟩
          have aG : Aside0 (w15.heap[ac]? = some (.cells zT_ 34 (0, 0))) := ⟨h2_⟩
          have aH : Aside0 (w15.heap[aa]? = some (.cells zT_ 34 (0, 0))) := ⟨h3_⟩
          have aJ : Aside0 (w.heap.size ≤ aa) := ⟨h4_⟩
          have aQ : Aside0 (w.heap.size ≤ aa) := ⟨h5_⟩
          have aR : Aside0 (ab ≠ aa) := ⟨h6_⟩
          have aY : Aside0 (aa ≠ ab) := ⟨h7_⟩
          have a0 : Aside0 (ac ≠ aa) := ⟨h8_⟩
          have a4 : Aside0 (aa ≠ ac) := ⟨h9_⟩
          have aT : Aside0 (Below w.heap.size w w15) := ⟨h10_⟩
          clear K1 K2 HB h0_ h1_ h2_ h3_ h4_ h5_ h6_ h7_ h8_ h9_ h10_
          have am := aD; have K1 := aE; have K2 := aG; have K3 := aH; have GW226 := aJ; have ao := aQ; have N13 := aR; have N31 := aY; have N23 := a0; have N32 := a4; have HB := aT
          clear aD aE aG aH aJ aQ aR aY a0 a4 aT
          have hHeld : SS_ ab aj af ai ah ax ad ar ay ae au aw ag av ak w15 := hS_
          refine norm_ (a' := ?_) ?_ ?_
          rotate_left
          ·simp only [putAll, Act.put, sA_, sB_, sC_]
           rfl
          refine on_ (i := 4) (N := some 17) HT_ (bl_ 15 9855) rfl rfl (fun K hK => ?_)
          refine goes_ Try.func37 (by kernel_rfl) rfl #[] (by rfl) rfl rfl Qm ?_
          with_reducible refine (r6_scripts.calls  aZ _ A4.out).mono ?_
          rintro e w16 ⟨v219, rfl, ho0, hb⟩
          refine ⟨_, rfl, ?_⟩
          have aD := Aside0.mk (Kd.R_elder' am.out (Kd.R_base ho0) hb)
          have aE := Aside0.mk (Kd.R_lower (Kd.R_new' ho0 (Kd.R_lt am.out)) (below_size HB.out))
          have aG := Aside0.mk (blk_below (g := ab) K1.out hb)
          have aH := Aside0.mk (blk_below (g := ac) K2.out hb)
          have aJ := Aside0.mk (blk_below (g := aa) K3.out hb)
          have aQ := Aside0.mk (below_step HB.out hb)
          clear am K1 K2 K3 HB
          have am := aD; have aA := aE; have K1 := aG; have K2 := aH; have K3 := aJ; have HB := aQ
          clear aD aE aG aH aJ aQ
          (try clear hb); (try clear hb2); (try clear hk); (try clear hi); (try clear ho0)
          refine hK.out _ _ (C8_ K1.out) (fun hHeld => ?_)
          clear hK K
          refine nm_ (some 17) ?_
          exact norm_ (by first | (simp only [putAll, Act.put, sA_, sB_, sC_]; done) | (simp only [putAll, Act.put, sA_, sB_, sC_]; rfl)) (hj5 (v215, _, aa) _ ⟨hHeld, (by (with_reducible repeat (first | apply rA_ | apply rN_ | apply rD_)); exact Kd.R_mono am.out (fun _ hk => hk.2)), (by (with_reducible repeat (first | apply rA_ | apply rN_ | apply rD_)); exact Kd.R_mono aA.out (fun _ hk => hk.2)), K1.out, K2.out, K3.out, GW226.out, ao.out, N13.out, N31.out, N23.out, N32.out, (by first | exact HB.out | exact wN_ HB.out _)⟩)
        ·skip
         rintro ⟨v215, v219⟩ w15 ⟨hS_, h0_, h1_, h2_, h3_, h4_⟩
         have aD : Aside0 (Kd.R Kd.string 9 w15 w.heap.size (fun k_ => some k_ ≠ (v219 : Value).ownBlock) v215 aW) := ⟨h0_⟩
         have aE : Aside0 (Kd.R Kd.string 9 w15 w.heap.size (fun k_ => some k_ ≠ (v215 : Value).ownBlock) v219 aZ) := ⟨h1_⟩
         have aG : Aside0 (w15.heap[ab]? = some (.cells #[.int .i64 aj, .int .i64 af, .int .i64 ai, .int .i64 ah, .slice ax ad.length ar, .slice ay ae.length au, .slice aw ag.length av, .int .i64 ak] 31 (0, 0))) := ⟨h2_⟩
         have aH : Aside0 (w15.heap[ac]? = some (.cells zT_ 34 (0, 0))) := ⟨h3_⟩
         have aJ : Aside0 (Below w.heap.size w w15) := ⟨h4_⟩
         clear K1 K2 HB h0_ h1_ h2_ h3_ h4_
         have am := aD; have aA := aE; have K1 := aG; have K2 := aH; have HB := aJ
         clear aD aE aG aH aJ
         have hHeld : SS_ ab aj af ai ah ax ad ar ay ae au aw ag av ak w15 := hS_
         obtain ⟨Ao16, co16, eo16⟩ := Kd.R_slice aA.out
         (first | subst eo16 | (injection eo16 with f1_ f2_ f3_; have f4_ := f1_.symm; have f5_ := f3_.symm; clear f1_ f2_ f3_; subst f4_; subst f5_))
         refine norm_ (a' := ?_) ?_ ?_
         rotate_left
         ·simp only [putAll, Act.put, sA_, sB_, sC_]
          rfl
         refine two_ (i := 7) (j := 13) (Ni := some 20) (Nj := some 3) #[true, true, true, true, true, true, true, true, false, true, true, false, false, false, false] #[true, true, true, true, true, true, true, false, false, true, true, false, false, true, false] rfl rfl rfl rfl (two_of HT_.out (by kernel_rfl)) (by decide) (by decide) (fun K hK => ?_) (fun K hK => ?_)
         ·skip
          refine goes_ Try.func35 (by kernel_rfl) rfl #[.slice Ao16 aZ.length co16, .int .i64 ai] (by rfl) rfl rfl Qm ?_
          with_reducible refine (r6_Pick.calls _ _ aZ ai ap _ ?side1 ?side2 A5.out).mono ?_
          (case side1 => repeat (first | exact (Kd.R_reads' aA.out).2.2 | (with_reducible refine Kd.C_alloc ?_ _) | (with_reducible refine Kd.C_drewN ?_ _) | (with_reducible refine Kd.C_drew ?_)))
          (case side2 => exact (Kd.R_reads' aA.out).2.1)
          rintro e w' ⟨rfl, ⟨nd, rfl⟩⟩
          refine ⟨_, rfl, ?_⟩
          refine hK.out _ _ (C8_ K1.out) (fun hHeld => ?_)
          clear hK K
          refine nm_ (some 20) ?_
          exact norm_ (by first | (simp only [putAll, Act.put, sA_, sB_, sC_]; done) | (simp only [putAll, Act.put, sA_, sB_, sC_]; rfl)) (hj6 (v215, .slice Ao16 aZ.length co16) _ ⟨hHeld, am.out, aA.out, K1.out, K2.out, (by first | exact HB.out | exact wN_ HB.out _)⟩)
         ·skip
          refine box_step ?hg (N := 3) ?hd (cs := #[.string (⟨#[]⟩ : ByteArray), .slice none 0 0, .string (⟨#[]⟩ : ByteArray), .string (⟨#[]⟩ : ByteArray), .slice none 0 0, .slice none 0 0, .slice none 0 0, .string (⟨#[]⟩ : ByteArray)]) (t := 34) ?hr ?_; (case hd => rfl); (case hg => rfl); (case hr => first | (go_simp; done) | (go_simp; rfl))
          intro aa hg w16 hbox hb
          have aD := Aside0.mk (Kd.R_below am.out hb)
          have aE := Aside0.mk (Kd.R_below aA.out hb)
          have aG := Aside0.mk (blk_below (g := ab) K1.out hb)
          have aH := Aside0.mk (blk_below (g := ac) K2.out hb)
          have aJ := Aside0.mk (below_step HB.out hb)
          have aQ := Aside0.mk (hbox)
          have aR := Aside0.mk ((by rw [hg]; exact (below_size HB.out) : _ ≤ aa))
          have aY := Aside0.mk ((by rw [hg]; exact (below_size HB.out) : _ ≤ aa))
          have a0 := Aside0.mk ((by rw [hg]; exact Nat.ne_of_lt (blk_lt (g := ab) K1.out) : ab ≠ aa))
          have a4 := Aside0.mk ((by rw [hg]; exact Nat.ne_of_gt (blk_lt (g := ab) K1.out) : aa ≠ ab))
          have aT := Aside0.mk ((by rw [hg]; exact Nat.ne_of_lt (blk_lt (g := ac) K2.out) : ac ≠ aa))
          have a3 := Aside0.mk ((by rw [hg]; exact Nat.ne_of_gt (blk_lt (g := ac) K2.out) : aa ≠ ac))
          clear am aA K1 K2 HB
          have am := aD; have aA := aE; have K1 := aG; have K2 := aH; have HB := aJ; have K3 := aQ; have GW226 := aR; have ao := aY; have N13 := a0; have N31 := a4; have N23 := aT; have N32 := a3
          clear aD aE aG aH aJ aQ aR aY a0 a4 aT a3 hb hbox hg
          refine hK.out _ _ (C8_ K1.out) (fun hHeld => ?_)
          clear hK K
          refine nm_ (some 3) ?_
          exact norm_ (by first | (simp only [putAll, Act.put, sA_, sB_, sC_]; done) | (simp only [putAll, Act.put, sA_, sB_, sC_]; rfl)) (hj5 (v215, _, aa) _ ⟨hHeld, am.out, aA.out, K1.out, K2.out, K3.out, GW226.out, ao.out, N13.out, N31.out, N23.out, N32.out, (by first | exact HB.out | exact wN_ HB.out _)⟩)
       ·skip
        rintro ⟨v215, v219, aa⟩ w16 ⟨hS_, h0_, h1_, h2_, h3_, h4_, h5_, h6_, h7_, h8_, h9_, h10_, h11_⟩
        have aD : Aside0 (Kd.R Kd.string 9 w16 w.heap.size (fun k_ => some k_ ≠ (v219 : Value).ownBlock) v215 aW) := ⟨h0_⟩
        have aE : Aside0 (Kd.R Kd.string 9 w16 w.heap.size (fun k_ => some k_ ≠ (v215 : Value).ownBlock) v219 aZ) := ⟨h1_⟩
        have aG : Aside0 (w16.heap[ab]? = some (.cells #[.int .i64 aj, .int .i64 af, .int .i64 ai, .int .i64 ah, .slice ax ad.length ar, .slice ay ae.length au, .slice aw ag.length av, .int .i64 ak] 31 (0, 0))) := ⟨h2_⟩
        have aH : Aside0 (w16.heap[ac]? = some (.cells zT_ 34 (0, 0))) := ⟨h3_⟩
        have aJ : Aside0 (w16.heap[aa]? = some (.cells zT_ 34 (0, 0))) := ⟨h4_⟩
        have aQ : Aside0 (w.heap.size ≤ aa) := ⟨h5_⟩
        have aR : Aside0 (w.heap.size ≤ aa) := ⟨h6_⟩
        have aY : Aside0 (ab ≠ aa) := ⟨h7_⟩
        have a0 : Aside0 (aa ≠ ab) := ⟨h8_⟩
        have a4 : Aside0 (ac ≠ aa) := ⟨h9_⟩
        have aT : Aside0 (aa ≠ ac) := ⟨h10_⟩
        have a3 : Aside0 (Below w.heap.size w w16) := ⟨h11_⟩
        clear K1 K2 HB h0_ h1_ h2_ h3_ h4_ h5_ h6_ h7_ h8_ h9_ h10_ h11_
        have am := aD; have aA := aE; have K1 := aG; have K2 := aH; have K3 := aJ; have GW226 := aQ; have ao := aR; have N13 := aY; have N31 := a0; have N23 := a4; have N32 := aT; have HB := a3
        clear aD aE aG aH aJ aQ aR aY a0 a4 aT a3
        have hHeld : SS_ ab aj af ai ah ax ad ar ay ae au aw ag av ak w16 := hS_
        obtain ⟨Ao17, co17, eo17⟩ := Kd.R_slice aA.out
        (first | subst eo17 | (injection eo17 with f1_ f2_ f3_; have f4_ := f1_.symm; have f5_ := f3_.symm; clear f1_ f2_ f3_; subst f4_; subst f5_))
        refine norm_ (a' := ?_) ?_ ?_
        rotate_left
        ·simp only [putAll, Act.put, sA_, sB_, sC_]
         rfl
        refine on_ (i := 7) (N := some 20) HT_ (bl_ 15 9983) rfl rfl (fun K hK => ?_)
        refine goes_ Try.func35 (by kernel_rfl) rfl #[.slice Ao17 aZ.length co17, .int .i64 ai] (by rfl) rfl rfl Qm ?_
        with_reducible refine (r6_Pick.calls _ _ aZ ai ap _ ?side1 ?side2 A5.out).mono ?_
        (case side1 => repeat (first | exact (Kd.R_reads' aA.out).2.2 | (with_reducible refine Kd.C_alloc ?_ _) | (with_reducible refine Kd.C_drewN ?_ _) | (with_reducible refine Kd.C_drew ?_)))
        (case side2 => exact (Kd.R_reads' aA.out).2.1)
        rintro e w' ⟨rfl, ⟨nd, rfl⟩⟩
        refine ⟨_, rfl, ?_⟩
        refine hK.out _ _ (C8_ K1.out) (fun hHeld => ?_)
        clear hK K
        refine nm_ (some 20) ?_
        exact norm_ (by first | (simp only [putAll, Act.put, sA_, sB_, sC_]; done) | (simp only [putAll, Act.put, sA_, sB_, sC_]; rfl)) (hj3 (v215, .slice Ao17 aZ.length co17, aa) _ ⟨hHeld, am.out, aA.out, K1.out, K2.out, K3.out, GW226.out, ao.out, N13.out, N31.out, N23.out, N32.out, (by first | exact HB.out | exact wN_ HB.out _)⟩)
      ·skip
       rintro ⟨v215, v219⟩ w16 ⟨hS_, h0_, h1_, h2_, h3_, h4_⟩
       have aD : Aside0 (Kd.R Kd.string 9 w16 w.heap.size (fun k_ => some k_ ≠ (v219 : Value).ownBlock) v215 aW) := ⟨h0_⟩
       have aE : Aside0 (Kd.R Kd.string 9 w16 w.heap.size (fun k_ => some k_ ≠ (v215 : Value).ownBlock) v219 aZ) := ⟨h1_⟩
       have aG : Aside0 (w16.heap[ab]? = some (.cells #[.int .i64 aj, .int .i64 af, .int .i64 ai, .int .i64 ah, .slice ax ad.length ar, .slice ay ae.length au, .slice aw ag.length av, .int .i64 ak] 31 (0, 0))) := ⟨h2_⟩
       have aH : Aside0 (w16.heap[ac]? = some (.cells zT_ 34 (0, 0))) := ⟨h3_⟩
       have aJ : Aside0 (Below w.heap.size w w16) := ⟨h4_⟩
       clear K1 K2 HB h0_ h1_ h2_ h3_ h4_
       have am := aD; have aA := aE; have K1 := aG; have K2 := aH; have HB := aJ
       clear aD aE aG aH aJ
       have hHeld : SS_ ab aj af ai ah ax ad ar ay ae au aw ag av ak w16 := hS_
       refine norm_ (a' := ?_) ?_ ?_
       rotate_left
       ·simp only [putAll, Act.put, sA_, sB_, sC_]
        rfl
       refine two_ (i := 8) (j := 13) (Ni := some 21) (Nj := some 3) #[true, true, true, true, true, true, true, true, true, true, true, false, false, false, false] #[true, true, true, true, true, true, true, true, false, true, true, false, false, true, false] rfl rfl rfl rfl (two_of HT_.out (by kernel_rfl)) (by decide) (by decide) (fun K hK => ?_) (fun K hK => ?_)
       ·skip
        refine goes_ Try.func38 (by kernel_rfl) rfl #[] (by rfl) rfl rfl Qm ?_
        with_reducible refine (r6_regions.calls  a2 _ A6.out).mono ?_
        rintro e w17 ⟨v223, rfl, ho0, hb⟩
        refine ⟨_, rfl, ?_⟩
        have aD := Aside0.mk (Kd.R_elder' am.out (Kd.R_base ho0) hb)
        have aE := Aside0.mk (Kd.R_elder' aA.out (Kd.R_base ho0) hb)
        have aG := Aside0.mk (Kd.R_lower (Kd.R_new' (Kd.R_new' ho0 (Kd.R_lt am.out)) (Kd.R_lt aA.out)) (below_size HB.out))
        have aH := Aside0.mk (blk_below (g := ab) K1.out hb)
        have aJ := Aside0.mk (blk_below (g := ac) K2.out hb)
        have aQ := Aside0.mk (below_step HB.out hb)
        clear am aA K1 K2 HB
        have am := aD; have aA := aE; have aX := aG; have K1 := aH; have K2 := aJ; have HB := aQ
        clear aD aE aG aH aJ aQ
        (try clear hb); (try clear hb2); (try clear hk); (try clear hi); (try clear ho0)
        refine hK.out _ _ (C8_ K1.out) (fun hHeld => ?_)
        clear hK K
        refine nm_ (some 21) ?_
        exact norm_ (by first | (simp only [putAll, Act.put, sA_, sB_, sC_]; done) | (simp only [putAll, Act.put, sA_, sB_, sC_]; rfl)) (hj4 (v215, v219, v223) _ ⟨hHeld, am.out, aA.out, (by (with_reducible repeat (first | apply rA_ | apply rN_ | apply rD_)); exact Kd.R_mono aX.out (fun _ hk => ⟨hk.1.2, hk.2⟩)), K1.out, K2.out, (by first | exact HB.out | exact wN_ HB.out _)⟩)
       ·skip
        refine box_step ?hg (N := 3) ?hd (cs := #[.string (⟨#[]⟩ : ByteArray), .slice none 0 0, .string (⟨#[]⟩ : ByteArray), .string (⟨#[]⟩ : ByteArray), .slice none 0 0, .slice none 0 0, .slice none 0 0, .string (⟨#[]⟩ : ByteArray)]) (t := 34) ?hr ?_; (case hd => rfl); (case hg => rfl); (case hr => first | (go_simp; done) | (go_simp; rfl))
        intro aa hg w17 hbox hb
        have aD := Aside0.mk (Kd.R_below am.out hb)
        have aE := Aside0.mk (Kd.R_below aA.out hb)
        have aG := Aside0.mk (blk_below (g := ab) K1.out hb)
        have aH := Aside0.mk (blk_below (g := ac) K2.out hb)
        have aJ := Aside0.mk (below_step HB.out hb)
        have aQ := Aside0.mk (hbox)
        have aR := Aside0.mk ((by rw [hg]; exact (below_size HB.out) : _ ≤ aa))
        have aY := Aside0.mk ((by rw [hg]; exact (below_size HB.out) : _ ≤ aa))
        have a0 := Aside0.mk ((by rw [hg]; exact Nat.ne_of_lt (blk_lt (g := ab) K1.out) : ab ≠ aa))
        have a4 := Aside0.mk ((by rw [hg]; exact Nat.ne_of_gt (blk_lt (g := ab) K1.out) : aa ≠ ab))
        have aT := Aside0.mk ((by rw [hg]; exact Nat.ne_of_lt (blk_lt (g := ac) K2.out) : ac ≠ aa))
        have a3 := Aside0.mk ((by rw [hg]; exact Nat.ne_of_gt (blk_lt (g := ac) K2.out) : aa ≠ ac))
        clear am aA K1 K2 HB
        have am := aD; have aA := aE; have K1 := aG; have K2 := aH; have HB := aJ; have K3 := aQ; have GW226 := aR; have ao := aY; have N13 := a0; have N31 := a4; have N23 := aT; have N32 := a3
        clear aD aE aG aH aJ aQ aR aY a0 a4 aT a3 hb hbox hg
        refine hK.out _ _ (C8_ K1.out) (fun hHeld => ?_)
        clear hK K
        refine nm_ (some 3) ?_
        exact norm_ (by first | (simp only [putAll, Act.put, sA_, sB_, sC_]; done) | (simp only [putAll, Act.put, sA_, sB_, sC_]; rfl)) (hj3 (v215, _, aa) _ ⟨hHeld, am.out, aA.out, K1.out, K2.out, K3.out, GW226.out, ao.out, N13.out, N31.out, N23.out, N32.out, (by first | exact HB.out | exact wN_ HB.out _)⟩)
     ·skip
      rintro ⟨v215, v219, aa⟩ w17 ⟨hS_, h0_, h1_, h2_, h3_, h4_, h5_, h6_, h7_, h8_, h9_, h10_, h11_⟩
      have aD : Aside0 (Kd.R Kd.string 9 w17 w.heap.size (fun k_ => some k_ ≠ (v219 : Value).ownBlock) v215 aW) := ⟨h0_⟩
      have aE : Aside0 (Kd.R Kd.string 9 w17 w.heap.size (fun k_ => some k_ ≠ (v215 : Value).ownBlock) v219 aZ) := ⟨h1_⟩
      have aG : Aside0 (w17.heap[ab]? = some (.cells #[.int .i64 aj, .int .i64 af, .int .i64 ai, .int .i64 ah, .slice ax ad.length ar, .slice ay ae.length au, .slice aw ag.length av, .int .i64 ak] 31 (0, 0))) := ⟨h2_⟩
      have aH : Aside0 (w17.heap[ac]? = some (.cells zT_ 34 (0, 0))) := ⟨h3_⟩
      have aJ : Aside0 (w17.heap[aa]? = some (.cells zT_ 34 (0, 0))) := ⟨h4_⟩
      have aQ : Aside0 (w.heap.size ≤ aa) := ⟨h5_⟩
      have aR : Aside0 (w.heap.size ≤ aa) := ⟨h6_⟩
      have aY : Aside0 (ab ≠ aa) := ⟨h7_⟩
      have a0 : Aside0 (aa ≠ ab) := ⟨h8_⟩
      have a4 : Aside0 (ac ≠ aa) := ⟨h9_⟩
      have aT : Aside0 (aa ≠ ac) := ⟨h10_⟩
      have a3 : Aside0 (Below w.heap.size w w17) := ⟨h11_⟩
      clear K1 K2 HB h0_ h1_ h2_ h3_ h4_ h5_ h6_ h7_ h8_ h9_ h10_ h11_
      have am := aD; have aA := aE; have K1 := aG; have K2 := aH; have K3 := aJ; have GW226 := aQ; have ao := aR; have N13 := aY; have N31 := a0; have N23 := a4; have N32 := aT; have HB := a3
      clear aD aE aG aH aJ aQ aR aY a0 a4 aT a3
      have hHeld : SS_ ab aj af ai ah ax ad ar ay ae au aw ag av ak w17 := hS_
      refine norm_ (a' := ?_) ?_ ?_
      rotate_left
      ·simp only [putAll, Act.put, sA_, sB_, sC_]
       rfl
      refine on_ (i := 8) (N := some 21) HT_ (bl_ 15 10239) rfl rfl (fun K hK => ?_)
      refine goes_ Try.func38 (by kernel_rfl) rfl #[] (by rfl) rfl rfl Qm ?_
      with_reducible refine (r6_regions.calls  a2 _ A6.out).mono ?_
      rintro e w18 ⟨v223, rfl, ho0, hb⟩
      refine ⟨_, rfl, ?_⟩
      have aD := Aside0.mk (Kd.R_elder' am.out (Kd.R_base ho0) hb)
      have aE := Aside0.mk (Kd.R_elder' aA.out (Kd.R_base ho0) hb)
      have aG := Aside0.mk (Kd.R_lower (Kd.R_new' (Kd.R_new' ho0 (Kd.R_lt am.out)) (Kd.R_lt aA.out)) (below_size HB.out))
      have aH := Aside0.mk (blk_below (g := ab) K1.out hb)
      have aJ := Aside0.mk (blk_below (g := ac) K2.out hb)
      have aQ := Aside0.mk (blk_below (g := aa) K3.out hb)
      have aR := Aside0.mk (below_step HB.out hb)
      clear am aA K1 K2 K3 HB
      have am := aD; have aA := aE; have aX := aG; have K1 := aH; have K2 := aJ; have K3 := aQ; have HB := aR
      clear aD aE aG aH aJ aQ aR
      (try clear hb); (try clear hb2); (try clear hk); (try clear hi); (try clear ho0)
      refine hK.out _ _ (C8_ K1.out) (fun hHeld => ?_)
      clear hK K
      refine nm_ (some 21) ?_
      exact norm_ (by first | (simp only [putAll, Act.put, sA_, sB_, sC_]; done) | (simp only [putAll, Act.put, sA_, sB_, sC_]; rfl)) (hj1 (v215, v219, _, aa) _ ⟨hHeld, am.out, aA.out, (by (with_reducible repeat (first | apply rA_ | apply rN_ | apply rD_)); exact Kd.R_mono aX.out (fun _ hk => ⟨hk.1.2, hk.2⟩)), K1.out, K2.out, K3.out, GW226.out, ao.out, N13.out, N31.out, N23.out, N32.out, (by first | exact HB.out | exact wN_ HB.out _)⟩)
    ·skip
     rintro ⟨v215, v219, v223⟩ w17 ⟨hS_, h0_, h1_, h2_, h3_, h4_, h5_⟩
     have aD : Aside0 (Kd.R Kd.string 9 w17 w.heap.size (fun k_ => some k_ ≠ (v219 : Value).ownBlock ∧ some k_ ≠ (v223 : Value).ownBlock) v215 aW) := ⟨h0_⟩
     have aE : Aside0 (Kd.R Kd.string 9 w17 w.heap.size (fun k_ => some k_ ≠ (v215 : Value).ownBlock ∧ some k_ ≠ (v223 : Value).ownBlock) v219 aZ) := ⟨h1_⟩
     have aG : Aside0 (Kd.R Kd.string 9 w17 w.heap.size (fun k_ => some k_ ≠ (v215 : Value).ownBlock ∧ some k_ ≠ (v219 : Value).ownBlock) v223 a2) := ⟨h2_⟩
     have aH : Aside0 (w17.heap[ab]? = some (.cells #[.int .i64 aj, .int .i64 af, .int .i64 ai, .int .i64 ah, .slice ax ad.length ar, .slice ay ae.length au, .slice aw ag.length av, .int .i64 ak] 31 (0, 0))) := ⟨h3_⟩
     have aJ : Aside0 (w17.heap[ac]? = some (.cells zT_ 34 (0, 0))) := ⟨h4_⟩
     have aQ : Aside0 (Below w.heap.size w w17) := ⟨h5_⟩
     clear K1 K2 HB h0_ h1_ h2_ h3_ h4_ h5_
     have am := aD; have aA := aE; have aX := aG; have K1 := aH; have K2 := aJ; have HB := aQ
     clear aD aE aG aH aJ aQ
     have hHeld : SS_ ab aj af ai ah ax ad ar ay ae au aw ag av ak w17 := hS_
     obtain ⟨Ao18, co18, eo18⟩ := Kd.R_slice aX.out
     (first | subst eo18 | (injection eo18 with f1_ f2_ f3_; have f4_ := f1_.symm; have f5_ := f3_.symm; clear f1_ f2_ f3_; subst f4_; subst f5_))
     refine norm_ (a' := ?_) ?_ ?_
     rotate_left
     ·simp only [putAll, Act.put, sA_, sB_, sC_]
      rfl
     refine two_ (i := 11) (j := 13) (Ni := some 24) (Nj := some 3) #[true, true, true, true, true, true, true, true, true, true, true, true, false, false, false] #[true, true, true, true, true, true, true, true, true, true, true, false, false, true, false] rfl rfl rfl rfl (two_of HT_.out (by kernel_rfl)) (by decide) (by decide) (fun K hK => ?_) (fun K hK => ?_)
     ·skip
      refine goes_ Try.func35 (by kernel_rfl) rfl #[.slice Ao18 a2.length co18, .int .i64 ah] (by rfl) rfl rfl Qm ?_
      with_reducible refine (r6_Pick.calls _ _ a2 ah aq _ ?side1 ?side2 A7.out).mono ?_
      (case side1 => repeat (first | exact (Kd.R_reads' aX.out).2.2 | (with_reducible refine Kd.C_alloc ?_ _) | (with_reducible refine Kd.C_drewN ?_ _) | (with_reducible refine Kd.C_drew ?_)))
      (case side2 => exact (Kd.R_reads' aX.out).2.1)
      rintro e w' ⟨rfl, ⟨nd, rfl⟩⟩
      refine ⟨_, rfl, ?_⟩
      refine hK.out _ _ (C8_ K1.out) (fun hHeld => ?_)
      clear hK K
      refine nm_ (some 24) ?_
      refine pu_ (i := 12) (N := some 25) HT_ (bl_ 15 8191) ?_
      exact norm_ (by first | (simp only [putAll, Act.put, sA_, sB_, sC_]; done) | (simp only [putAll, Act.put, sA_, sB_, sC_]; rfl)) (hj2 (v215, v219, .slice Ao18 a2.length co18) _ ⟨hHeld, am.out, aA.out, aX.out, K1.out, K2.out, (by first | exact HB.out | exact wN_ HB.out _)⟩)
     ·skip
      refine box_step ?hg (N := 3) ?hd (cs := #[.string (⟨#[]⟩ : ByteArray), .slice none 0 0, .string (⟨#[]⟩ : ByteArray), .string (⟨#[]⟩ : ByteArray), .slice none 0 0, .slice none 0 0, .slice none 0 0, .string (⟨#[]⟩ : ByteArray)]) (t := 34) ?hr ?_; (case hd => rfl); (case hg => rfl); (case hr => first | (go_simp; done) | (go_simp; rfl))
      intro aa hg w18 hbox hb
      have aD := Aside0.mk (Kd.R_below am.out hb)
      have aE := Aside0.mk (Kd.R_below aA.out hb)
      have aG := Aside0.mk (Kd.R_below aX.out hb)
      have aH := Aside0.mk (blk_below (g := ab) K1.out hb)
      have aJ := Aside0.mk (blk_below (g := ac) K2.out hb)
      have aQ := Aside0.mk (below_step HB.out hb)
      have aR := Aside0.mk (hbox)
      have aY := Aside0.mk ((by rw [hg]; exact (below_size HB.out) : _ ≤ aa))
      have a0 := Aside0.mk ((by rw [hg]; exact (below_size HB.out) : _ ≤ aa))
      have a4 := Aside0.mk ((by rw [hg]; exact Nat.ne_of_lt (blk_lt (g := ab) K1.out) : ab ≠ aa))
      have aT := Aside0.mk ((by rw [hg]; exact Nat.ne_of_gt (blk_lt (g := ab) K1.out) : aa ≠ ab))
      have a3 := Aside0.mk ((by rw [hg]; exact Nat.ne_of_lt (blk_lt (g := ac) K2.out) : ac ≠ aa))
      have bc := Aside0.mk ((by rw [hg]; exact Nat.ne_of_gt (blk_lt (g := ac) K2.out) : aa ≠ ac))
      clear am aA aX K1 K2 HB
      have am := aD; have aA := aE; have aX := aG; have K1 := aH; have K2 := aJ; have HB := aQ; have K3 := aR; have GW226 := aY; have ao := a0; have N13 := a4; have N31 := aT; have N23 := a3; have N32 := bc
      clear aD aE aG aH aJ aQ aR aY a0 a4 aT a3 bc hb hbox hg
      refine hK.out _ _ (C8_ K1.out) (fun hHeld => ?_)
      clear hK K
      refine nm_ (some 3) ?_
      exact norm_ (by first | (simp only [putAll, Act.put, sA_, sB_, sC_]; done) | (simp only [putAll, Act.put, sA_, sB_, sC_]; rfl)) (hj1 (v215, v219, _, aa) _ ⟨hHeld, am.out, aA.out, aX.out, K1.out, K2.out, K3.out, GW226.out, ao.out, N13.out, N31.out, N23.out, N32.out, (by first | exact HB.out | exact wN_ HB.out _)⟩)
   ·skip
    rintro ⟨v215, v219, v223, aa⟩ w18 ⟨hS_, h0_, h1_, h2_, h3_, h4_, h5_, h6_, h7_, h8_, h9_, h10_, h11_, h12_⟩
    have aD : Aside0 (Kd.R Kd.string 9 w18 w.heap.size (fun k_ => some k_ ≠ (v219 : Value).ownBlock ∧ some k_ ≠ (v223 : Value).ownBlock) v215 aW) := ⟨h0_⟩
    have aE : Aside0 (Kd.R Kd.string 9 w18 w.heap.size (fun k_ => some k_ ≠ (v215 : Value).ownBlock ∧ some k_ ≠ (v223 : Value).ownBlock) v219 aZ) := ⟨h1_⟩
    have aG : Aside0 (Kd.R Kd.string 9 w18 w.heap.size (fun k_ => some k_ ≠ (v215 : Value).ownBlock ∧ some k_ ≠ (v219 : Value).ownBlock) v223 a2) := ⟨h2_⟩
    have aH : Aside0 (w18.heap[ab]? = some (.cells #[.int .i64 aj, .int .i64 af, .int .i64 ai, .int .i64 ah, .slice ax ad.length ar, .slice ay ae.length au, .slice aw ag.length av, .int .i64 ak] 31 (0, 0))) := ⟨h3_⟩
    have aJ : Aside0 (w18.heap[ac]? = some (.cells zT_ 34 (0, 0))) := ⟨h4_⟩
    have aQ : Aside0 (w18.heap[aa]? = some (.cells zT_ 34 (0, 0))) := ⟨h5_⟩
    have aR : Aside0 (w.heap.size ≤ aa) := ⟨h6_⟩
    have aY : Aside0 (w.heap.size ≤ aa) := ⟨h7_⟩
    have a0 : Aside0 (ab ≠ aa) := ⟨h8_⟩
    have a4 : Aside0 (aa ≠ ab) := ⟨h9_⟩
    have aT : Aside0 (ac ≠ aa) := ⟨h10_⟩
    have a3 : Aside0 (aa ≠ ac) := ⟨h11_⟩
    have bc : Aside0 (Below w.heap.size w w18) := ⟨h12_⟩
    clear K1 K2 HB h0_ h1_ h2_ h3_ h4_ h5_ h6_ h7_ h8_ h9_ h10_ h11_ h12_
    have am := aD; have aA := aE; have aX := aG; have K1 := aH; have K2 := aJ; have K3 := aQ; have GW226 := aR; have ao := aY; have N13 := a0; have N31 := a4; have N23 := aT; have N32 := a3; have HB := bc
    clear aD aE aG aH aJ aQ aR aY a0 a4 aT a3 bc
    have hHeld : SS_ ab aj af ai ah ax ad ar ay ae au aw ag av ak w18 := hS_
    obtain ⟨Ao19, co19, eo19⟩ := Kd.R_slice aX.out
    (first | subst eo19 | (injection eo19 with f1_ f2_ f3_; have f4_ := f1_.symm; have f5_ := f3_.symm; clear f1_ f2_ f3_; subst f4_; subst f5_))
    refine norm_ (a' := ?_) ?_ ?_
    rotate_left
    ·simp only [putAll, Act.put, sA_, sB_, sC_]
     rfl
    refine on_ (i := 11) (N := some 24) HT_ (bl_ 15 12287) rfl rfl (fun K hK => ?_)
    refine goes_ Try.func35 (by kernel_rfl) rfl #[.slice Ao19 a2.length co19, .int .i64 ah] (by rfl) rfl rfl Qm ?_
    with_reducible refine (r6_Pick.calls _ _ a2 ah aq _ ?side1 ?side2 A7.out).mono ?_
    (case side1 => repeat (first | exact (Kd.R_reads' aX.out).2.2 | (with_reducible refine Kd.C_alloc ?_ _) | (with_reducible refine Kd.C_drewN ?_ _) | (with_reducible refine Kd.C_drew ?_)))
    (case side2 => exact (Kd.R_reads' aX.out).2.1)
    rintro e w' ⟨rfl, ⟨nd, rfl⟩⟩
    refine ⟨_, rfl, ?_⟩
    refine hK.out _ _ (C8_ K1.out) (fun hHeld => ?_)
    clear hK K
    refine nm_ (some 24) ?_
    refine pu_ (i := 12) (N := some 25) HT_ (bl_ 15 16383) ?_
    exact norm_ (by first | (simp only [putAll, Act.put, sA_, sB_, sC_]; done) | (simp only [putAll, Act.put, sA_, sB_, sC_]; rfl)) (hj0 (v215, v219, .slice Ao19 a2.length co19, aa) _ ⟨hHeld, am.out, aA.out, aX.out, K1.out, K2.out, K3.out, GW226.out, ao.out, N13.out, N31.out, N23.out, N32.out, (by first | exact HB.out | exact wN_ HB.out _)⟩)
  ·skip
   rintro ⟨v215, v219, v223⟩ w18 ⟨hS_, h0_, h1_, h2_, h3_, h4_, h5_⟩
   have aD : Aside0 (Kd.R Kd.string 9 w18 w.heap.size (fun k_ => some k_ ≠ (v219 : Value).ownBlock ∧ some k_ ≠ (v223 : Value).ownBlock) v215 aW) := ⟨h0_⟩
   have aE : Aside0 (Kd.R Kd.string 9 w18 w.heap.size (fun k_ => some k_ ≠ (v215 : Value).ownBlock ∧ some k_ ≠ (v223 : Value).ownBlock) v219 aZ) := ⟨h1_⟩
   have aG : Aside0 (Kd.R Kd.string 9 w18 w.heap.size (fun k_ => some k_ ≠ (v215 : Value).ownBlock ∧ some k_ ≠ (v219 : Value).ownBlock) v223 a2) := ⟨h2_⟩
   have aH : Aside0 (w18.heap[ab]? = some (.cells #[.int .i64 aj, .int .i64 af, .int .i64 ai, .int .i64 ah, .slice ax ad.length ar, .slice ay ae.length au, .slice aw ag.length av, .int .i64 ak] 31 (0, 0))) := ⟨h3_⟩
   have aJ : Aside0 (w18.heap[ac]? = some (.cells zT_ 34 (0, 0))) := ⟨h4_⟩
   have aQ : Aside0 (Below w.heap.size w w18) := ⟨h5_⟩
   clear K1 K2 HB h0_ h1_ h2_ h3_ h4_ h5_
   have am := aD; have aA := aE; have aX := aG; have K1 := aH; have K2 := aJ; have HB := aQ
   clear aD aE aG aH aJ aQ
   have hHeld : SS_ ab aj af ai ah ax ad ar ay ae au aw ag av ak w18 := hS_
   refine norm_ (a' := ?_) ?_ ?_
   rotate_left
   ·simp only [putAll, Act.put, sA_, sB_, sC_]
    rfl
   refine on_ (i := 13) (N := some 3) HT_ (bl_ 15 16383) rfl rfl (fun K hK => ?_)
   refine box_step ?hg (N := 3) ?hd (cs := #[.string (⟨#[]⟩ : ByteArray), .slice none 0 0, .string (⟨#[]⟩ : ByteArray), .string (⟨#[]⟩ : ByteArray), .slice none 0 0, .slice none 0 0, .slice none 0 0, .string (⟨#[]⟩ : ByteArray)]) (t := 34) ?hr ?_; (case hd => rfl); (case hg => rfl); (case hr => first | (go_simp; done) | (go_simp; rfl))
   intro aa hg w19 hbox hb
   have aD := Aside0.mk (Kd.R_below am.out hb)
   have aE := Aside0.mk (Kd.R_below aA.out hb)
   have aG := Aside0.mk (Kd.R_below aX.out hb)
   have aH := Aside0.mk (blk_below (g := ab) K1.out hb)
   have aJ := Aside0.mk (blk_below (g := ac) K2.out hb)
   have aQ := Aside0.mk (below_step HB.out hb)
   have aR := Aside0.mk (hbox)
   have aY := Aside0.mk ((by rw [hg]; exact (below_size HB.out) : _ ≤ aa))
   have a0 := Aside0.mk ((by rw [hg]; exact (below_size HB.out) : _ ≤ aa))
   have a4 := Aside0.mk ((by rw [hg]; exact Nat.ne_of_lt (blk_lt (g := ab) K1.out) : ab ≠ aa))
   have aT := Aside0.mk ((by rw [hg]; exact Nat.ne_of_gt (blk_lt (g := ab) K1.out) : aa ≠ ab))
   have a3 := Aside0.mk ((by rw [hg]; exact Nat.ne_of_lt (blk_lt (g := ac) K2.out) : ac ≠ aa))
   have bc := Aside0.mk ((by rw [hg]; exact Nat.ne_of_gt (blk_lt (g := ac) K2.out) : aa ≠ ac))
   clear am aA aX K1 K2 HB
   have am := aD; have aA := aE; have aX := aG; have K1 := aH; have K2 := aJ; have HB := aQ; have K3 := aR; have GW226 := aY; have ao := a0; have N13 := a4; have N31 := aT; have N23 := a3; have N32 := bc
   clear aD aE aG aH aJ aQ aR aY a0 a4 aT a3 bc hb hbox hg
   refine hK.out _ _ (C8_ K1.out) (fun hHeld => ?_)
   clear hK K
   refine nm_ (some 3) ?_
   exact norm_ (by first | (simp only [putAll, Act.put, sA_, sB_, sC_]; done) | (simp only [putAll, Act.put, sA_, sB_, sC_]; rfl)) (hj0 (v215, v219, _, aa) _ ⟨hHeld, am.out, aA.out, aX.out, K1.out, K2.out, K3.out, GW226.out, ao.out, N13.out, N31.out, N23.out, N32.out, (by first | exact HB.out | exact wN_ HB.out _)⟩)
 rintro ⟨v215, v219, v223, aa⟩ w19 ⟨hS_, h0_, h1_, h2_, h3_, h4_, h5_, h6_, h7_, h8_, h9_, h10_, h11_, h12_⟩
 have aD : Aside0 (Kd.R Kd.string 9 w19 w.heap.size (fun k_ => some k_ ≠ (v219 : Value).ownBlock ∧ some k_ ≠ (v223 : Value).ownBlock) v215 aW) := ⟨h0_⟩
 have aE : Aside0 (Kd.R Kd.string 9 w19 w.heap.size (fun k_ => some k_ ≠ (v215 : Value).ownBlock ∧ some k_ ≠ (v223 : Value).ownBlock) v219 aZ) := ⟨h1_⟩
 have aG : Aside0 (Kd.R Kd.string 9 w19 w.heap.size (fun k_ => some k_ ≠ (v215 : Value).ownBlock ∧ some k_ ≠ (v219 : Value).ownBlock) v223 a2) := ⟨h2_⟩
 have aH : Aside0 (w19.heap[ab]? = some (.cells #[.int .i64 aj, .int .i64 af, .int .i64 ai, .int .i64 ah, .slice ax ad.length ar, .slice ay ae.length au, .slice aw ag.length av, .int .i64 ak] 31 (0, 0))) := ⟨h3_⟩
 have aJ : Aside0 (w19.heap[ac]? = some (.cells zT_ 34 (0, 0))) := ⟨h4_⟩
 have aQ : Aside0 (w19.heap[aa]? = some (.cells zT_ 34 (0, 0))) := ⟨h5_⟩
 have aR : Aside0 (w.heap.size ≤ aa) := ⟨h6_⟩
 have aY : Aside0 (w.heap.size ≤ aa) := ⟨h7_⟩
 have a0 : Aside0 (ab ≠ aa) := ⟨h8_⟩
 have a4 : Aside0 (aa ≠ ab) := ⟨h9_⟩
 have aT : Aside0 (ac ≠ aa) := ⟨h10_⟩
 have a3 : Aside0 (aa ≠ ac) := ⟨h11_⟩
 have bc : Aside0 (Below w.heap.size w w19) := ⟨h12_⟩
 clear K1 K2 HB h0_ h1_ h2_ h3_ h4_ h5_ h6_ h7_ h8_ h9_ h10_ h11_ h12_
 have am := aD; have aA := aE; have aX := aG; have K1 := aH; have K2 := aJ; have K3 := aQ; have GW226 := aR; have ao := aY; have N13 := a0; have N31 := a4; have N23 := aT; have N32 := a3; have HB := bc
 clear aD aE aG aH aJ aQ aR aY a0 a4 aT a3 bc
 have hHeld : SS_ ab aj af ai ah ax ad ar ay ae au aw ag av ak w19 := hS_
 refine norm_ (a' := ?_) ?_ ?_
 rotate_left
 ·simp only [putAll, Act.put, sA_, sB_, sC_]
  rfl
 refine on_ (i := 14) (N := none) HT_ (bl_ 15 32767) rfl rfl (fun K hK => ?_)
 have hs20 : w19.cell? ⟨aa, 0, none⟩ = some (.string (⟨#[]⟩ : ByteArray)) := (bC_ K3.out 0).trans rfl
 have hfs20 := bF_ K3.out 0
 have hns20_0 := N13.out
 have hns20_1 := N23.out
 have hms20_0 := N31.out
 have hms20_1 := N32.out
 have hs21 : w19.cell? ⟨aa, 1, none⟩ = some (.slice none 0 0) := (bC_ K3.out 1).trans rfl
 have hfs21 := bF_ K3.out 1
 have hns21_0 := N13.out
 have hns21_1 := N23.out
 have hms21_0 := N31.out
 have hms21_1 := N32.out
 have hs22 : w19.cell? ⟨aa, 2, none⟩ = some (.string (⟨#[]⟩ : ByteArray)) := (bC_ K3.out 2).trans rfl
 have hfs22 := bF_ K3.out 2
 have hns22_0 := N13.out
 have hns22_1 := N23.out
 have hms22_0 := N31.out
 have hms22_1 := N32.out
 have hs23 : w19.cell? ⟨aa, 3, none⟩ = some (.string (⟨#[]⟩ : ByteArray)) := (bC_ K3.out 3).trans rfl
 have hfs23 := bF_ K3.out 3
 have hns23_0 := N13.out
 have hns23_1 := N23.out
 have hms23_0 := N31.out
 have hms23_1 := N32.out
 have hs24 : w19.cell? ⟨aa, 4, none⟩ = some (.slice none 0 0) := (bC_ K3.out 4).trans rfl
 have hfs24 := bF_ K3.out 4
 have hns24_0 := N13.out
 have hns24_1 := N23.out
 have hms24_0 := N31.out
 have hms24_1 := N32.out
 have hs25 : w19.cell? ⟨aa, 5, none⟩ = some (.slice none 0 0) := (bC_ K3.out 5).trans rfl
 have hfs25 := bF_ K3.out 5
 have hns25_0 := N13.out
 have hns25_1 := N23.out
 have hms25_0 := N31.out
 have hms25_1 := N32.out
 have hs26 : w19.cell? ⟨aa, 6, none⟩ = some (.slice none 0 0) := (bC_ K3.out 6).trans rfl
 have hfs26 := bF_ K3.out 6
 have hns26_0 := N13.out
 have hns26_1 := N23.out
 have hms26_0 := N31.out
 have hms26_1 := N32.out
 have hs27 : w19.cell? ⟨aa, 7, none⟩ = some (.string (⟨#[]⟩ : ByteArray)) := (bC_ K3.out 7).trans rfl
 have hfs27 := bF_ K3.out 7
 have hns27_0 := N13.out
 have hns27_1 := N23.out
 have hms27_0 := N31.out
 have hms27_1 := N32.out
 refine skip_ (w1 := ?_) (by rfl) rfl ?_ ?_
 rotate_left
 ·go_simp
  rfl
 refine hK.out _ _ ⟨((cell_far (p := ⟨aa, _, none⟩) N13.out _).trans (((cell_far (p := ⟨aa, _, none⟩) N13.out _).trans (((cell_far (p := ⟨aa, _, none⟩) N13.out _).trans (((cell_far (p := ⟨aa, _, none⟩) N13.out _).trans (((cell_far (p := ⟨aa, _, none⟩) N13.out _).trans (((cell_far (p := ⟨aa, _, none⟩) N13.out _).trans (((cell_far (p := ⟨aa, _, none⟩) N13.out _).trans (((cell_far (p := ⟨aa, _, none⟩) N13.out _).trans (hHeld.1)))))))))))))))), ((cell_far (p := ⟨aa, _, none⟩) N13.out _).trans (((cell_far (p := ⟨aa, _, none⟩) N13.out _).trans (((cell_far (p := ⟨aa, _, none⟩) N13.out _).trans (((cell_far (p := ⟨aa, _, none⟩) N13.out _).trans (((cell_far (p := ⟨aa, _, none⟩) N13.out _).trans (((cell_far (p := ⟨aa, _, none⟩) N13.out _).trans (((cell_far (p := ⟨aa, _, none⟩) N13.out _).trans (((cell_far (p := ⟨aa, _, none⟩) N13.out _).trans (hHeld.2.1)))))))))))))))), ((cell_far (p := ⟨aa, _, none⟩) N13.out _).trans (((cell_far (p := ⟨aa, _, none⟩) N13.out _).trans (((cell_far (p := ⟨aa, _, none⟩) N13.out _).trans (((cell_far (p := ⟨aa, _, none⟩) N13.out _).trans (((cell_far (p := ⟨aa, _, none⟩) N13.out _).trans (((cell_far (p := ⟨aa, _, none⟩) N13.out _).trans (((cell_far (p := ⟨aa, _, none⟩) N13.out _).trans (((cell_far (p := ⟨aa, _, none⟩) N13.out _).trans (hHeld.2.2.1)))))))))))))))), ((cell_far (p := ⟨aa, _, none⟩) N13.out _).trans (((cell_far (p := ⟨aa, _, none⟩) N13.out _).trans (((cell_far (p := ⟨aa, _, none⟩) N13.out _).trans (((cell_far (p := ⟨aa, _, none⟩) N13.out _).trans (((cell_far (p := ⟨aa, _, none⟩) N13.out _).trans (((cell_far (p := ⟨aa, _, none⟩) N13.out _).trans (((cell_far (p := ⟨aa, _, none⟩) N13.out _).trans (((cell_far (p := ⟨aa, _, none⟩) N13.out _).trans (hHeld.2.2.2.1)))))))))))))))), ((cell_far (p := ⟨aa, _, none⟩) N13.out _).trans (((cell_far (p := ⟨aa, _, none⟩) N13.out _).trans (((cell_far (p := ⟨aa, _, none⟩) N13.out _).trans (((cell_far (p := ⟨aa, _, none⟩) N13.out _).trans (((cell_far (p := ⟨aa, _, none⟩) N13.out _).trans (((cell_far (p := ⟨aa, _, none⟩) N13.out _).trans (((cell_far (p := ⟨aa, _, none⟩) N13.out _).trans (((cell_far (p := ⟨aa, _, none⟩) N13.out _).trans (hHeld.2.2.2.2.1)))))))))))))))), ((cell_far (p := ⟨aa, _, none⟩) N13.out _).trans (((cell_far (p := ⟨aa, _, none⟩) N13.out _).trans (((cell_far (p := ⟨aa, _, none⟩) N13.out _).trans (((cell_far (p := ⟨aa, _, none⟩) N13.out _).trans (((cell_far (p := ⟨aa, _, none⟩) N13.out _).trans (((cell_far (p := ⟨aa, _, none⟩) N13.out _).trans (((cell_far (p := ⟨aa, _, none⟩) N13.out _).trans (((cell_far (p := ⟨aa, _, none⟩) N13.out _).trans (hHeld.2.2.2.2.2.1)))))))))))))))), ((cell_far (p := ⟨aa, _, none⟩) N13.out _).trans (((cell_far (p := ⟨aa, _, none⟩) N13.out _).trans (((cell_far (p := ⟨aa, _, none⟩) N13.out _).trans (((cell_far (p := ⟨aa, _, none⟩) N13.out _).trans (((cell_far (p := ⟨aa, _, none⟩) N13.out _).trans (((cell_far (p := ⟨aa, _, none⟩) N13.out _).trans (((cell_far (p := ⟨aa, _, none⟩) N13.out _).trans (((cell_far (p := ⟨aa, _, none⟩) N13.out _).trans (hHeld.2.2.2.2.2.2.1)))))))))))))))), ((cell_far (p := ⟨aa, _, none⟩) N13.out _).trans (((cell_far (p := ⟨aa, _, none⟩) N13.out _).trans (((cell_far (p := ⟨aa, _, none⟩) N13.out _).trans (((cell_far (p := ⟨aa, _, none⟩) N13.out _).trans (((cell_far (p := ⟨aa, _, none⟩) N13.out _).trans (((cell_far (p := ⟨aa, _, none⟩) N13.out _).trans (((cell_far (p := ⟨aa, _, none⟩) N13.out _).trans (((cell_far (p := ⟨aa, _, none⟩) N13.out _).trans (hHeld.2.2.2.2.2.2.2))))))))))))))))⟩ (fun hHeld => ?_)
 clear hK K
 refine done_ (done_of HT_.out (by kernel_rfl)) ?_
 go_upto_region 2 with (fail)
 go_cut [35] (fun v35 wc => ∃ (kq : Nat) (cx : Bool), v35 = .bool cx ∧ Aside0 (mD.j0 kq cx aj af ai ah ad ae ag ak al ap aq (⟨#[]⟩ : ByteArray) = some (r1, r2, r3, r4, r5, r6, r7, r8)) ∧ Aside0 (kq ≤ k) ∧ Aside0 (wc.heap[ab]? = some (.cells #[.int .i64 aj, .int .i64 af, .int .i64 ai, .int .i64 ah, (.slice ax ad.length ar), (.slice ay ae.length au), (.slice aw ag.length av), .int .i64 ak] 31 (0, 0))) ∧ Aside0 (wc.heap[ac]? = some (.cells zT_ 34 (0, 0))) ∧ Aside0 (wc.heap[aa]? = some (.cells #[.string al, (.slice none 0 0), .string ap, .string aq, (.slice none 0 0), (.slice none 0 0), (.slice none 0 0), .string (⟨#[]⟩ : ByteArray)] 34 (0, 0))) ∧ Aside0 (Below w.heap.size w wc))
 case first =>
  have H := fa.out
  clear fa
  by_cases c28 : (al.size : Int) ≤ 3
  ·rw [if_pos c28] at H
   have a6 : decide ((al.size : Int) ≤ 3) = true := decide_eq_true c28
   have a8 : decide (al.size ≤ 3) = true := decide_eq_true (by omega)
   clear c28
   (first | rw [a6] | rw [a8] | (simp only [i64_w, i32_w]; rw [a6]) | skip)
   have H' := Aside0.mk H
   clear H
   have hnb29 := N31.out
   have hnc29 := N13.out
   have hnb30 := N32.out
   have hnc30 := N23.out
   obtain ⟨bp, bq, br, bs, bu, bv, bw, bx, f31_0, f31_1, f31_2, f31_3, f31_4, f31_5, f31_6, f31_7⟩ := cells8 K3.out
   have hnb32 := N12.out
   have hnc32 := N21.out
   obtain ⟨bz, bA, bB, bC, bD, bE, bd, be, f33_0, f33_1, f33_2, f33_3, f33_4, f33_5, f33_6, f33_7⟩ := cells8 K1.out
   go_wp2
   go_meet
   case rel => exact ⟨_, (((Int.tmod af 4) == 1)), Qs, H', ⟨by first | omega | exact Nat.le_refl _⟩, ⟨by (with_reducible repeat (first | refine bN_ ?_ _ | refine bD_ ?_ | refine bA_ ?_ _)); refine blk_far ?_ N13.out _; (with_reducible repeat (first | refine bN_ ?_ _ | refine bD_ ?_ | refine bA_ ?_ _)); refine blk_far ?_ N13.out _; (with_reducible repeat (first | refine bN_ ?_ _ | refine bD_ ?_ | refine bA_ ?_ _)); refine blk_far ?_ N13.out _; (with_reducible repeat (first | refine bN_ ?_ _ | refine bD_ ?_ | refine bA_ ?_ _)); refine blk_far ?_ N13.out _; (with_reducible repeat (first | refine bN_ ?_ _ | refine bD_ ?_ | refine bA_ ?_ _)); refine blk_far ?_ N13.out _; (with_reducible repeat (first | refine bN_ ?_ _ | refine bD_ ?_ | refine bA_ ?_ _)); refine blk_far ?_ N13.out _; (with_reducible repeat (first | refine bN_ ?_ _ | refine bD_ ?_ | refine bA_ ?_ _)); refine blk_far ?_ N13.out _; (with_reducible repeat (first | refine bN_ ?_ _ | refine bD_ ?_ | refine bA_ ?_ _)); refine blk_far ?_ N13.out _; (with_reducible repeat (first | refine bN_ ?_ _ | refine bD_ ?_ | refine bA_ ?_ _)); exact K1.out⟩, ⟨by (with_reducible repeat (first | refine bN_ ?_ _ | refine bD_ ?_ | refine bA_ ?_ _)); refine blk_far ?_ N23.out _; (with_reducible repeat (first | refine bN_ ?_ _ | refine bD_ ?_ | refine bA_ ?_ _)); refine blk_far ?_ N23.out _; (with_reducible repeat (first | refine bN_ ?_ _ | refine bD_ ?_ | refine bA_ ?_ _)); refine blk_far ?_ N23.out _; (with_reducible repeat (first | refine bN_ ?_ _ | refine bD_ ?_ | refine bA_ ?_ _)); refine blk_far ?_ N23.out _; (with_reducible repeat (first | refine bN_ ?_ _ | refine bD_ ?_ | refine bA_ ?_ _)); refine blk_far ?_ N23.out _; (with_reducible repeat (first | refine bN_ ?_ _ | refine bD_ ?_ | refine bA_ ?_ _)); refine blk_far ?_ N23.out _; (with_reducible repeat (first | refine bN_ ?_ _ | refine bD_ ?_ | refine bA_ ?_ _)); refine blk_far ?_ N23.out _; (with_reducible repeat (first | refine bN_ ?_ _ | refine bD_ ?_ | refine bA_ ?_ _)); refine blk_far ?_ N23.out _; (with_reducible repeat (first | refine bN_ ?_ _ | refine bD_ ?_ | refine bA_ ?_ _)); exact K2.out⟩, ⟨by (with_reducible repeat (first | refine bN_ ?_ _ | refine bD_ ?_ | refine bA_ ?_ _)); refine blk_put (cs := #[.string al, .slice none 0 0, .string ap, .string aq, .slice none 0 0, .slice none 0 0, .slice none 0 0, .string (⟨#[]⟩ : ByteArray)]) ?_ 7 _ rfl; (with_reducible repeat (first | refine bN_ ?_ _ | refine bD_ ?_ | refine bA_ ?_ _)); refine blk_put (cs := #[.string al, .slice none 0 0, .string ap, .string aq, .slice none 0 0, .slice none 0 0, .slice none 0 0, .string (⟨#[]⟩ : ByteArray)]) ?_ 6 _ rfl; (with_reducible repeat (first | refine bN_ ?_ _ | refine bD_ ?_ | refine bA_ ?_ _)); refine blk_put (cs := #[.string al, .slice none 0 0, .string ap, .string aq, .slice none 0 0, .slice none 0 0, .slice none 0 0, .string (⟨#[]⟩ : ByteArray)]) ?_ 5 _ rfl; (with_reducible repeat (first | refine bN_ ?_ _ | refine bD_ ?_ | refine bA_ ?_ _)); refine blk_put (cs := #[.string al, .slice none 0 0, .string ap, .string aq, .slice none 0 0, .slice none 0 0, .slice none 0 0, .string (⟨#[]⟩ : ByteArray)]) ?_ 4 _ rfl; (with_reducible repeat (first | refine bN_ ?_ _ | refine bD_ ?_ | refine bA_ ?_ _)); refine blk_put (cs := #[.string al, .slice none 0 0, .string ap, .string (⟨#[]⟩ : ByteArray), .slice none 0 0, .slice none 0 0, .slice none 0 0, .string (⟨#[]⟩ : ByteArray)]) ?_ 3 _ rfl; (with_reducible repeat (first | refine bN_ ?_ _ | refine bD_ ?_ | refine bA_ ?_ _)); refine blk_put (cs := #[.string al, .slice none 0 0, .string (⟨#[]⟩ : ByteArray), .string (⟨#[]⟩ : ByteArray), .slice none 0 0, .slice none 0 0, .slice none 0 0, .string (⟨#[]⟩ : ByteArray)]) ?_ 2 _ rfl; (with_reducible repeat (first | refine bN_ ?_ _ | refine bD_ ?_ | refine bA_ ?_ _)); refine blk_put (cs := #[.string al, .slice none 0 0, .string (⟨#[]⟩ : ByteArray), .string (⟨#[]⟩ : ByteArray), .slice none 0 0, .slice none 0 0, .slice none 0 0, .string (⟨#[]⟩ : ByteArray)]) ?_ 1 _ rfl; (with_reducible repeat (first | refine bN_ ?_ _ | refine bD_ ?_ | refine bA_ ?_ _)); refine blk_put (cs := #[.string (⟨#[]⟩ : ByteArray), .slice none 0 0, .string (⟨#[]⟩ : ByteArray), .string (⟨#[]⟩ : ByteArray), .slice none 0 0, .slice none 0 0, .slice none 0 0, .string (⟨#[]⟩ : ByteArray)]) ?_ 0 _ rfl; (with_reducible repeat (first | refine bN_ ?_ _ | refine bD_ ?_ | refine bA_ ?_ _)); exact K3.out⟩, ⟨Qz HB.out az.out aC.out ao.out⟩⟩
  ·rw [if_neg c28] at H
   have a6 : decide ((al.size : Int) ≤ 3) = false := decide_eq_false c28
   have a8 : decide (al.size ≤ 3) = false := decide_eq_false (by omega)
   clear c28
   (first | rw [a6] | rw [a8] | (simp only [i64_w, i32_w]; rw [a6]) | skip)
   have H' := Aside0.mk H
   clear H
   have hnb34 := N31.out
   have hnc34 := N13.out
   have hnb35 := N32.out
   have hnc35 := N23.out
   obtain ⟨bf, bg, bh, bi, bj, bk, bm, bn, f36_0, f36_1, f36_2, f36_3, f36_4, f36_5, f36_6, f36_7⟩ := cells8 K3.out
   go_wp2
   go_meet
   case rel => exact ⟨_, (false), Qs, H', ⟨by first | omega | exact Nat.le_refl _⟩, ⟨by (with_reducible repeat (first | refine bN_ ?_ _ | refine bD_ ?_ | refine bA_ ?_ _)); refine blk_far ?_ N13.out _; (with_reducible repeat (first | refine bN_ ?_ _ | refine bD_ ?_ | refine bA_ ?_ _)); refine blk_far ?_ N13.out _; (with_reducible repeat (first | refine bN_ ?_ _ | refine bD_ ?_ | refine bA_ ?_ _)); refine blk_far ?_ N13.out _; (with_reducible repeat (first | refine bN_ ?_ _ | refine bD_ ?_ | refine bA_ ?_ _)); refine blk_far ?_ N13.out _; (with_reducible repeat (first | refine bN_ ?_ _ | refine bD_ ?_ | refine bA_ ?_ _)); refine blk_far ?_ N13.out _; (with_reducible repeat (first | refine bN_ ?_ _ | refine bD_ ?_ | refine bA_ ?_ _)); refine blk_far ?_ N13.out _; (with_reducible repeat (first | refine bN_ ?_ _ | refine bD_ ?_ | refine bA_ ?_ _)); refine blk_far ?_ N13.out _; (with_reducible repeat (first | refine bN_ ?_ _ | refine bD_ ?_ | refine bA_ ?_ _)); refine blk_far ?_ N13.out _; (with_reducible repeat (first | refine bN_ ?_ _ | refine bD_ ?_ | refine bA_ ?_ _)); exact K1.out⟩, ⟨by (with_reducible repeat (first | refine bN_ ?_ _ | refine bD_ ?_ | refine bA_ ?_ _)); refine blk_far ?_ N23.out _; (with_reducible repeat (first | refine bN_ ?_ _ | refine bD_ ?_ | refine bA_ ?_ _)); refine blk_far ?_ N23.out _; (with_reducible repeat (first | refine bN_ ?_ _ | refine bD_ ?_ | refine bA_ ?_ _)); refine blk_far ?_ N23.out _; (with_reducible repeat (first | refine bN_ ?_ _ | refine bD_ ?_ | refine bA_ ?_ _)); refine blk_far ?_ N23.out _; (with_reducible repeat (first | refine bN_ ?_ _ | refine bD_ ?_ | refine bA_ ?_ _)); refine blk_far ?_ N23.out _; (with_reducible repeat (first | refine bN_ ?_ _ | refine bD_ ?_ | refine bA_ ?_ _)); refine blk_far ?_ N23.out _; (with_reducible repeat (first | refine bN_ ?_ _ | refine bD_ ?_ | refine bA_ ?_ _)); refine blk_far ?_ N23.out _; (with_reducible repeat (first | refine bN_ ?_ _ | refine bD_ ?_ | refine bA_ ?_ _)); refine blk_far ?_ N23.out _; (with_reducible repeat (first | refine bN_ ?_ _ | refine bD_ ?_ | refine bA_ ?_ _)); exact K2.out⟩, ⟨by (with_reducible repeat (first | refine bN_ ?_ _ | refine bD_ ?_ | refine bA_ ?_ _)); refine blk_put (cs := #[.string al, .slice none 0 0, .string ap, .string aq, .slice none 0 0, .slice none 0 0, .slice none 0 0, .string (⟨#[]⟩ : ByteArray)]) ?_ 7 _ rfl; (with_reducible repeat (first | refine bN_ ?_ _ | refine bD_ ?_ | refine bA_ ?_ _)); refine blk_put (cs := #[.string al, .slice none 0 0, .string ap, .string aq, .slice none 0 0, .slice none 0 0, .slice none 0 0, .string (⟨#[]⟩ : ByteArray)]) ?_ 6 _ rfl; (with_reducible repeat (first | refine bN_ ?_ _ | refine bD_ ?_ | refine bA_ ?_ _)); refine blk_put (cs := #[.string al, .slice none 0 0, .string ap, .string aq, .slice none 0 0, .slice none 0 0, .slice none 0 0, .string (⟨#[]⟩ : ByteArray)]) ?_ 5 _ rfl; (with_reducible repeat (first | refine bN_ ?_ _ | refine bD_ ?_ | refine bA_ ?_ _)); refine blk_put (cs := #[.string al, .slice none 0 0, .string ap, .string aq, .slice none 0 0, .slice none 0 0, .slice none 0 0, .string (⟨#[]⟩ : ByteArray)]) ?_ 4 _ rfl; (with_reducible repeat (first | refine bN_ ?_ _ | refine bD_ ?_ | refine bA_ ?_ _)); refine blk_put (cs := #[.string al, .slice none 0 0, .string ap, .string (⟨#[]⟩ : ByteArray), .slice none 0 0, .slice none 0 0, .slice none 0 0, .string (⟨#[]⟩ : ByteArray)]) ?_ 3 _ rfl; (with_reducible repeat (first | refine bN_ ?_ _ | refine bD_ ?_ | refine bA_ ?_ _)); refine blk_put (cs := #[.string al, .slice none 0 0, .string (⟨#[]⟩ : ByteArray), .string (⟨#[]⟩ : ByteArray), .slice none 0 0, .slice none 0 0, .slice none 0 0, .string (⟨#[]⟩ : ByteArray)]) ?_ 2 _ rfl; (with_reducible repeat (first | refine bN_ ?_ _ | refine bD_ ?_ | refine bA_ ?_ _)); refine blk_put (cs := #[.string al, .slice none 0 0, .string (⟨#[]⟩ : ByteArray), .string (⟨#[]⟩ : ByteArray), .slice none 0 0, .slice none 0 0, .slice none 0 0, .string (⟨#[]⟩ : ByteArray)]) ?_ 1 _ rfl; (with_reducible repeat (first | refine bN_ ?_ _ | refine bD_ ?_ | refine bA_ ?_ _)); refine blk_put (cs := #[.string (⟨#[]⟩ : ByteArray), .slice none 0 0, .string (⟨#[]⟩ : ByteArray), .string (⟨#[]⟩ : ByteArray), .slice none 0 0, .slice none 0 0, .slice none 0 0, .string (⟨#[]⟩ : ByteArray)]) ?_ 0 _ rfl; (with_reducible repeat (first | refine bN_ ?_ _ | refine bD_ ?_ | refine bA_ ?_ _)); exact K3.out⟩, ⟨Qz HB.out az.out aC.out ao.out⟩⟩
 case rest =>
  clear fa
  try clear c2; try clear p2; try clear c3; try clear c28; try clear a6; try clear a8; try clear c29; try clear c30; try clear c32; try clear c34; try clear c35
  try clear bp bq br bs bu bv bw bx f31_0 f31_1 f31_2 f31_3 f31_4 f31_5 f31_6 f31_7; try clear bz bA bB bC bD bE bd be f33_0 f33_1 f33_2 f33_3 f33_4 f33_5 f33_6 f33_7; try clear bf bg bh bi bj bk bm bn f36_0 f36_1 f36_2 f36_3 f36_4 f36_5 f36_6 f36_7
  obtain ⟨kq, cx, rfl, HA, HJ7, K1, K2, K3, HB⟩ := hcut
  cases kq with
  | zero => exact absurd HA.out (by simp [mD.j0])
  | succ kj7 =>
   have H := HA.out
   clear HA
   simp only [mD.j0] at H
   have eh := Aside0.mk H
   clear H
   go_upto_if 35 with (fail)
   go_cut [] (fun wc => ∃ (kq : Nat) (x1_ : List ByteArray) (u227001 : Value), Aside0 (mD.j1 kq aj af ai ah ad ae ag ak al x1_ ap aq (⟨#[]⟩ : ByteArray) = some (r1, r2, r3, r4, r5, r6, r7, r8)) ∧ Aside0 (kq ≤ kj7) ∧ Aside0 (Kd.R Kd.string 9 wc w.heap.size (fun _ => True) u227001 x1_) ∧ Aside0 (wc.heap[ab]? = some (.cells #[.int .i64 aj, .int .i64 af, .int .i64 ai, .int .i64 ah, (.slice ax ad.length ar), (.slice ay ae.length au), (.slice aw ag.length av), .int .i64 ak] 31 (0, 0))) ∧ Aside0 (wc.heap[ac]? = some (.cells zT_ 34 (0, 0))) ∧ Aside0 (wc.heap[aa]? = some (.cells #[.string al, u227001, .string ap, .string aq, (.slice none 0 0), (.slice none 0 0), (.slice none 0 0), .string (⟨#[]⟩ : ByteArray)] 34 (0, 0))) ∧ Aside0 (Below w.heap.size w wc))
   case first =>
    have H := eh.out
    clear eh
    by_cases c38 : cx = true
    ·subst c38
     have H1 : ((r6_Pick.f (([(⟨#[121, 117, 101]⟩ : ByteArray), (⟨#[99, 109, 110]⟩ : ByteArray), (⟨#[109, 105, 110]⟩ : ByteArray)] : List ByteArray)) (wrap64 (Int.tdiv af 4))).bind fun bV => (mD.j1 kj7 aj af ai ah ad ae ag ak al (([bV] : List ByteArray)) ap aq (⟨#[]⟩ : ByteArray))) = some (r1, r2, r3, r4, r5, r6, r7, r8) := by rw [if_pos rfl] at H; exact H
     clear H
     have H := H1
     clear H1
     obtain ⟨dv, ch⟩ : ∃ y_ : List ByteArray, y_ = (([(⟨#[121, 117, 101]⟩ : ByteArray), (⟨#[99, 109, 110]⟩ : ByteArray), (⟨#[109, 105, 110]⟩ : ByteArray)] : List ByteArray)) := ⟨_, rfl⟩
     replace H : ((r6_Pick.f dv (wrap64 (Int.tdiv af 4))).bind fun bV => (mD.j1 kj7 aj af ai ah ad ae ag ak al (([bV] : List ByteArray)) ap aq (⟨#[]⟩ : ByteArray))) = some (r1, r2, r3, r4, r5, r6, r7, r8) := by first | (rw [ch]; with_reducible exact H) | (have H2_ := (Option.bind_some _ _).symm.trans H; rw [ch]; with_reducible exact H2_) | (have H2_ := (Option.bind_some _ _).symm.trans H; with_reducible exact H2_) | with_reducible exact H | (rw [ch]; exact H) | exact H
     have d8 := Aside0.mk ch
     clear ch
     replace H := Option.bind_eq_some_iff.mp H
     obtain ⟨bV, eX, H⟩ := H
     replace H : (mD.j1 kj7 aj af ai ah ad ae ag ak al (([bV] : List ByteArray)) ap aq (⟨#[]⟩ : ByteArray)) = some (r1, r2, r3, r4, r5, r6, r7, r8) := H
     have f4 := Aside0.mk eX
     clear eX
     obtain ⟨dR, ci⟩ : ∃ y_ : List ByteArray, y_ = (([bV] : List ByteArray)) := ⟨_, rfl⟩
     replace H : (mD.j1 kj7 aj af ai ah ad ae ag ak al dR ap aq (⟨#[]⟩ : ByteArray)) = some (r1, r2, r3, r4, r5, r6, r7, r8) := by first | (rw [ci]; with_reducible exact H) | (have H2_ := (Option.bind_some _ _).symm.trans H; rw [ci]; with_reducible exact H2_) | (have H2_ := (Option.bind_some _ _).symm.trans H; with_reducible exact H2_) | with_reducible exact H | (rw [ci]; exact H) | exact H
     have d9 := Aside0.mk ci
     clear ci
     have H' := Aside0.mk H
     clear H
     go_wp2_with (first | ((with_reducible refine gate_dst (N := 36) rfl ?_); refine Kd.R_lit Kd.string _ 9 ?hg (N := 36) ?hd (xs := ([(⟨#[121, 117, 101]⟩ : ByteArray), (⟨#[99, 109, 110]⟩ : ByteArray), (⟨#[109, 105, 110]⟩ : ByteArray)] : List ByteArray)) (inner := [.string (⟨#[121, 117, 101]⟩ : ByteArray), .string (⟨#[99, 109, 110]⟩ : ByteArray), .string (⟨#[109, 105, 110]⟩ : ByteArray)]) (ok := fun _ => True) (okp := fun _ => True) ?hr ?hp (fun _ hk => hk) trivial (Below.refl _ _) (Nat.le_refl _) (by simp) ?_; (case hd => rfl); (case hg => rfl); (case hr => first | (go_simp; done) | (go_simp; rfl)); (case hp => exact (Reps.one (show Kd.M Kd.string _ _ _ (⟨#[121, 117, 101]⟩ : ByteArray) [.string (⟨#[121, 117, 101]⟩ : ByteArray)] from rfl) (Reps.one (show Kd.M Kd.string _ _ _ (⟨#[99, 109, 110]⟩ : ByteArray) [.string (⟨#[99, 109, 110]⟩ : ByteArray)] from rfl) (Reps.one (show Kd.M Kd.string _ _ _ (⟨#[109, 105, 110]⟩ : ByteArray) [.string (⟨#[109, 105, 110]⟩ : ByteArray)] from rfl) (Reps.none _ _))))); intro v228 w40 ho41 hb hg_ hnew_; clear hg_ hnew_; (first | rw [← d8.out] at ho41 | (simp only [Int.reduceToNat] at ho41; rw [← d8.out] at ho41)); have aD := Aside0.mk (Kd.R_lower ho41 (below_size (Qz HB.out az.out aC.out ao.out))); have aE := Aside0.mk (blk_below (g := ab) (o := .cells #[.int .i64 aj, .int .i64 af, .int .i64 ai, .int .i64 ah, .slice ax ad.length ar, .slice ay ae.length au, .slice aw ag.length av, .int .i64 ak] 31 (0, 0)) (Qb K1.out) hb); have aG := Aside0.mk (blk_below (g := ac) (o := .cells zT_ 34 (0, 0)) (Qb K2.out) hb); have aH := Aside0.mk (blk_below (g := aa) (o := .cells #[.string al, .slice none 0 0, .string ap, .string aq, .slice none 0 0, .slice none 0 0, .slice none 0 0, .string (⟨#[]⟩ : ByteArray)] 34 (0, 0)) (Qb K3.out) hb); have aJ := Aside0.mk (below_step (Qz HB.out az.out aC.out ao.out) hb); clear K1; clear K2; clear K3; clear HB; have a9 := aD; have K1 := aE; have K2 := aG; have K3 := aH; have HB := aJ; clear aD aE aG aH aJ; clear hb ho41; have hnb42 := N12.out; have hnc42 := N21.out; have hnb43 := N13.out; have hnc43 := N31.out; obtain ⟨bF, bG, bH, bI, bJ, bK, bL, bM, f44_0, f44_1, f44_2, f44_3, f44_4, f44_5, f44_6, f44_7⟩ := cells8 K1.out; obtain ⟨Ao45, co45, eo45⟩ := Kd.R_slice a9.out; subst eo45) | ((with_reducible refine gate_callee (f := 35) rfl ?_); refine goesL_ (some 40) rfl rfl Try.func35 (by kernel_rfl) rfl #[.slice Ao45 dv.length co45, .int .i64 (wrap64 (Int.tdiv af 4))] rfl Qm ?_; (with_reducible refine (r6_Pick.calls _ _ dv (wrap64 (Int.tdiv af 4)) bV _ ?side1 ?side2 f4.out).mono ?_); (case side1 => repeat (first | exact (Kd.R_reads' a9.out).2.2 | (with_reducible refine Kd.C_alloc ?_ _) | (with_reducible refine Kd.C_drewN ?_ _) | (with_reducible refine Kd.C_drew ?_))); (case side2 => exact (Kd.R_reads' a9.out).2.1); rintro e w' ⟨rfl, ⟨nd, rfl⟩⟩; refine ⟨_, rfl, ?_⟩; (try (rw [drewN_self w40]; generalize hq_ : World.drewN w40 _ = w40; have aD : Aside0 (Kd.R Kd.string 9 w40 w.heap.size (fun _ => True) (.slice Ao45 dv.length co45) dv) := ⟨by rw [← hq_]; exact (Qr a9.out)⟩; have aE : Aside0 (w40.heap[ab]? = some (.cells #[.int .i64 aj, .int .i64 af, .int .i64 ai, .int .i64 ah, .slice ax ad.length ar, .slice ay ae.length au, .slice aw ag.length av, .int .i64 ak] 31 (0, 0))) := ⟨by rw [← hq_]; exact (Qb K1.out)⟩; have aG : Aside0 (w40.heap[ac]? = some (.cells zT_ 34 (0, 0))) := ⟨by rw [← hq_]; exact (Qb K2.out)⟩; have aH : Aside0 (w40.heap[aa]? = some (.cells #[.string al, .slice none 0 0, .string ap, .string aq, .slice none 0 0, .slice none 0 0, .slice none 0 0, .string (⟨#[]⟩ : ByteArray)] 34 (0, 0))) := ⟨by rw [← hq_]; exact (Qb K3.out)⟩; have aJ : Aside0 (Below w.heap.size w w40) := ⟨by rw [← hq_]; exact (Qz HB.out az.out aC.out ao.out)⟩; clear a9 K1 K2 K3 HB hq_; have a9 := aD; have K1 := aE; have K2 := aG; have K3 := aH; have HB := aJ; clear aD aE aG aH aJ))) | ((with_reducible refine gate_dst (N := 41) rfl ?_); refine Kd.R_lit Kd.string _ 9 ?hg (N := 41) ?hd (xs := ([bV] : List ByteArray)) (inner := [.string bV]) (ok := fun _ => True) (okp := fun _ => True) ?hr ?hp (fun _ hk => hk) trivial (Below.refl _ _) (Nat.le_refl _) (by simp) ?_; (case hd => rfl); (case hg => rfl); (case hr => first | (go_simp; done) | (go_simp; rfl)); (case hp => exact (Reps.one (show Kd.M Kd.string _ _ _ bV [.string bV] from rfl) (Reps.none _ _))); intro v232 w46 ho47 hb hg_ hnew_; clear hg_ hnew_; (first | rw [← d9.out] at ho47 | (simp only [Int.reduceToNat] at ho47; rw [← d9.out] at ho47)); have aD := Aside0.mk (Kd.R_elder' (Qr a9.out) (Kd.R_base ho47) hb); have aE := Aside0.mk (Kd.R_lower (Kd.R_new' ho47 (Kd.R_lt (Qr a9.out))) (below_size (Qz HB.out az.out aC.out ao.out))); have aG := Aside0.mk (blk_below (g := ab) (o := .cells #[.int .i64 aj, .int .i64 af, .int .i64 ai, .int .i64 ah, .slice ax ad.length ar, .slice ay ae.length au, .slice aw ag.length av, .int .i64 ak] 31 (0, 0)) (Qb K1.out) hb); have aH := Aside0.mk (blk_below (g := ac) (o := .cells zT_ 34 (0, 0)) (Qb K2.out) hb); have aJ := Aside0.mk (blk_below (g := aa) (o := .cells #[.string al, .slice none 0 0, .string ap, .string aq, .slice none 0 0, .slice none 0 0, .slice none 0 0, .string (⟨#[]⟩ : ByteArray)] 34 (0, 0)) (Qb K3.out) hb); have aQ := Aside0.mk (below_step (Qz HB.out az.out aC.out ao.out) hb); clear a9; clear K1; clear K2; clear K3; clear HB; have a9 := aD; have ea := aE; have K1 := aG; have K2 := aH; have K3 := aJ; have HB := aQ; clear aD aE aG aH aJ aQ; clear hb ho47; obtain ⟨Ao48, co48, eo48⟩ := Kd.R_slice ea.out; subst eo48; have hnb49 := N32.out; have hnc49 := N23.out; obtain ⟨bN, bO, bP, bQ, bR, bS, bT, bU, f50_0, f50_1, f50_2, f50_3, f50_4, f50_5, f50_6, f50_7⟩ := cells8 K3.out))
     go_meet
     case rel => exact ⟨_, (dR), (.slice Ao48 dR.length co48), H', ⟨by have := HJ7.out; first | omega | exact Nat.le_refl _⟩, ⟨by (with_reducible repeat (first | apply rA_ | apply rN_ | apply rD_)); exact Kd.R_mono (Kd.R_far (p := ⟨aa, 1, none⟩) (Kd.R_types ea.out K3.out (by decide)) (fun _ hk => hk.2) (.slice Ao48 dR.length co48)) (fun _ hk => trivial)⟩, ⟨by (with_reducible repeat (first | refine bN_ ?_ _ | refine bD_ ?_ | refine bA_ ?_ _)); refine blk_far ?_ N13.out _; (with_reducible repeat (first | refine bN_ ?_ _ | refine bD_ ?_ | refine bA_ ?_ _)); exact K1.out⟩, ⟨by (with_reducible repeat (first | refine bN_ ?_ _ | refine bD_ ?_ | refine bA_ ?_ _)); refine blk_far ?_ N23.out _; (with_reducible repeat (first | refine bN_ ?_ _ | refine bD_ ?_ | refine bA_ ?_ _)); exact K2.out⟩, ⟨by (with_reducible repeat (first | refine bN_ ?_ _ | refine bD_ ?_ | refine bA_ ?_ _)); refine blk_put (cs := #[.string al, .slice none 0 0, .string ap, .string aq, .slice none 0 0, .slice none 0 0, .slice none 0 0, .string (⟨#[]⟩ : ByteArray)]) ?_ 1 _ rfl; (with_reducible repeat (first | refine bN_ ?_ _ | refine bD_ ?_ | refine bA_ ?_ _)); exact K3.out⟩, ⟨Qz HB.out az.out aC.out ao.out⟩⟩
    ·replace c38 := Bool.eq_false_iff.mpr c38
     subst c38
     have H1 : (mD.j1 kj7 aj af ai ah ad ae ag ak al ([] : List ByteArray) ap aq (⟨#[]⟩ : ByteArray)) = some (r1, r2, r3, r4, r5, r6, r7, r8) := by rw [if_neg (show ¬ (false = true) by decide)] at H; exact H
     clear H
     have H := H1
     clear H1
     have H' := Aside0.mk H
     clear H
     go_wp2
     go_meet
     case rel => exact ⟨_, (([] : List ByteArray)), (.slice none 0 0), H', ⟨by have := HJ7.out; first | omega | exact Nat.le_refl _⟩, ⟨by first | exact Kd.R_nil _ _ _ _ _ | exact Kd.N_nil _ _ _ _ _ | exact Kd.V_nil _ _ _ _ _ | exact Kd.Q_nil _ _ _ _ _ | exact Kd.S_nil _ _ _ _ _⟩, ⟨Qb K1.out⟩, ⟨Qb K2.out⟩, ⟨Qb K3.out⟩, ⟨Qz HB.out az.out aC.out ao.out⟩⟩
   case rest =>
    clear eh
    try clear c2; try clear p2; try clear c3; try clear c4; try clear p6; try clear c28; try clear a6; try clear a8; try clear c29; try clear c30; try clear c32; try clear c34; try clear c35; try clear c38; try clear c42; try clear c43; try clear c49
    try clear bp bq br bs bu bv bw bx f31_0 f31_1 f31_2 f31_3 f31_4 f31_5 f31_6 f31_7; try clear bz bA bB bC bD bE bd be f33_0 f33_1 f33_2 f33_3 f33_4 f33_5 f33_6 f33_7; try clear bf bg bh bi bj bk bm bn f36_0 f36_1 f36_2 f36_3 f36_4 f36_5 f36_6 f36_7; try clear bF bG bH bI bJ bK bL bM f44_0 f44_1 f44_2 f44_3 f44_4 f44_5 f44_6 f44_7; try clear bN bO bP bQ bR bS bT bU f50_0 f50_1 f50_2 f50_3 f50_4 f50_5 f50_6 f50_7
    try clear p2
    obtain ⟨kq, x1_, u227001, HA, HJ36, O1, K1, K2, K3, HB⟩ := hcut
    cases kq with
    | zero => exact absurd HA.out (by simp [mD.j1])
    | succ kj36 =>
     have H := HA.out
     clear HA
     simp only [mD.j1] at H
     have H' := Aside0.mk H
     clear H
     go_wp2
     go_loopg [4] kj36 (fun kq v4 w' => ∃ (aV : Int) (x4_ : List ByteArray) (u227004 : Value), v4 = .int .i64 aV ∧ Aside0 (mD.l0 kq aV aj af ai ah ad ae ag ak al x1_ ap aq x4_ (⟨#[]⟩ : ByteArray) = some (r1, r2, r3, r4, r5, r6, r7, r8)) ∧ Aside0 (kq ≤ kj36) ∧ Aside0 (Kd.R Kd.string 9 w' w.heap.size (fun k_ => some k_ ≠ (u227004 : Value).ownBlock) u227001 x1_) ∧ Aside0 (Kd.R Kd.string 9 w' w.heap.size (fun k_ => some k_ ≠ (u227001 : Value).ownBlock) u227004 x4_) ∧ Aside0 (w'.heap[ab]? = some (.cells #[.int .i64 aj, .int .i64 af, .int .i64 ai, .int .i64 ah, (.slice ax ad.length ar), (.slice ay ae.length au), (.slice aw ag.length av), .int .i64 ak] 31 (0, 0))) ∧ Aside0 (w'.heap[ac]? = some (.cells zT_ 34 (0, 0))) ∧ Aside0 (w'.heap[aa]? = some (.cells #[.string al, u227001, .string ap, .string aq, u227004, (.slice none 0 0), (.slice none 0 0), .string (⟨#[]⟩ : ByteArray)] 34 (0, 0))) ∧ Aside0 (Below w.heap.size w w'))
     case atStart => exact ⟨(0), (([] : List ByteArray)), (.slice none 0 0), Qs, H', ⟨Nat.le_refl _⟩, ⟨by (with_reducible repeat (first | apply rA_ | apply rN_ | apply rD_)); exact Kd.R_mono O1.out (fun _ hk => (by simp [Value.ownBlock]))⟩, ⟨by first | exact Kd.R_nil _ _ _ _ _ | exact Kd.N_nil _ _ _ _ _ | exact Kd.V_nil _ _ _ _ _ | exact Kd.Q_nil _ _ _ _ _ | exact Kd.S_nil _ _ _ _ _⟩, ⟨Qb K1.out⟩, ⟨Qb K2.out⟩, ⟨Qb K3.out⟩, ⟨Qz HB.out az.out aC.out ao.out⟩⟩
     case round =>
      clear H'
      try clear c2; try clear p2; try clear c3; try clear c4; try clear p6; try clear c28; try clear a6; try clear a8; try clear c29; try clear c30; try clear c32; try clear c34; try clear c35; try clear c38; try clear c42; try clear c43; try clear c49
      try clear bp bq br bs bu bv bw bx f31_0 f31_1 f31_2 f31_3 f31_4 f31_5 f31_6 f31_7; try clear bz bA bB bC bD bE bd be f33_0 f33_1 f33_2 f33_3 f33_4 f33_5 f33_6 f33_7; try clear bf bg bh bi bj bk bm bn f36_0 f36_1 f36_2 f36_3 f36_4 f36_5 f36_6 f36_7; try clear bF bG bH bI bJ bK bL bM f44_0 f44_1 f44_2 f44_3 f44_4 f44_5 f44_6 f44_7; try clear bN bO bP bQ bR bS bT bU f50_0 f50_1 f50_2 f50_3 f50_4 f50_5 f50_6 f50_7
      try clear p2; try clear p6
      obtain ⟨aV, x4_, u227004, rfl, HA, HK3, O1, O4, K1, K2, K3, HB⟩ := hrel
      cases gk with
      | zero => exact absurd HA.out (by simp [mD.l0])
      | succ k3 =>
       have H := HA.out
       clear HA
       simp only [mD.l0] at H
       have ei := Aside0.mk H
       clear H
       go_upto_region 5 with (fail)
       go_cut [51] (fun v51 wc => ∃ (kq : Nat) (cf : Bool), v51 = .bool cf ∧ Aside0 (mD.j3 kq aV cf aj af ai ah ad ae ag ak al x1_ ap aq x4_ (⟨#[]⟩ : ByteArray) = some (r1, r2, r3, r4, r5, r6, r7, r8)) ∧ Aside0 (kq ≤ k3) ∧ Aside0 (Kd.R Kd.string 9 wc w.heap.size (fun k_ => some k_ ≠ (u227004 : Value).ownBlock) u227001 x1_) ∧ Aside0 (Kd.R Kd.string 9 wc w.heap.size (fun k_ => some k_ ≠ (u227001 : Value).ownBlock) u227004 x4_) ∧ Aside0 (wc.heap[ab]? = some (.cells #[.int .i64 aj, .int .i64 af, .int .i64 ai, .int .i64 ah, (.slice ax ad.length ar), (.slice ay ae.length au), (.slice aw ag.length av), .int .i64 ak] 31 (0, 0))) ∧ Aside0 (wc.heap[ac]? = some (.cells zT_ 34 (0, 0))) ∧ Aside0 (wc.heap[aa]? = some (.cells #[.string al, u227001, .string ap, .string aq, u227004, (.slice none 0 0), (.slice none 0 0), .string (⟨#[]⟩ : ByteArray)] 34 (0, 0))) ∧ Aside0 (Below w.heap.size w wc))
       case first =>
        have H := ei.out
        clear ei
        by_cases c52 : aV < (ad.length : Int)
        ·rw [if_pos c52] at H
         have ba : decide (aV < (ad.length : Int)) = true := decide_eq_true c52
         clear c52
         (first | rw [ba] | (simp only [i64_w, i32_w]; rw [ba]) | skip)
         have H' := Aside0.mk H
         clear H
         have hnb53 := N12.out
         have hnc53 := N21.out
         have hnb54 := N13.out
         have hnc54 := N31.out
         obtain ⟨bZ, b0, b1, b2, b3, b4, b5, b6, f55_0, f55_1, f55_2, f55_3, f55_4, f55_5, f55_6, f55_7⟩ := cells8 K1.out
         go_wp2
         go_meet
         case rel => exact ⟨_, (decide (aV < 4)), Qs, H', ⟨by have := HJ7.out; have := HJ36.out; have := HK3.out; first | omega | exact Nat.le_refl _⟩, ⟨Qr O1.out⟩, ⟨Qr O4.out⟩, ⟨Qb K1.out⟩, ⟨Qb K2.out⟩, ⟨Qb K3.out⟩, ⟨Qz HB.out az.out aC.out ao.out⟩⟩
        ·rw [if_neg c52] at H
         have ba : decide (aV < (ad.length : Int)) = false := decide_eq_false c52
         clear c52
         (first | rw [ba] | (simp only [i64_w, i32_w]; rw [ba]) | skip)
         have H' := Aside0.mk H
         clear H
         have hnb56 := N12.out
         have hnc56 := N21.out
         have hnb57 := N13.out
         have hnc57 := N31.out
         obtain ⟨b7, b8, b9, ca, cb, cc, cd, ce, f58_0, f58_1, f58_2, f58_3, f58_4, f58_5, f58_6, f58_7⟩ := cells8 K1.out
         go_wp2
         go_meet
         case rel => exact ⟨_, (false), Qs, H', ⟨by have := HJ7.out; have := HJ36.out; have := HK3.out; first | omega | exact Nat.le_refl _⟩, ⟨Qr O1.out⟩, ⟨Qr O4.out⟩, ⟨Qb K1.out⟩, ⟨Qb K2.out⟩, ⟨Qb K3.out⟩, ⟨Qz HB.out az.out aC.out ao.out⟩⟩
       case rest =>
        clear ei
        try clear c2; try clear p2; try clear c3; try clear c4; try clear c5; try clear p6; try clear c28; try clear a6; try clear a8; try clear c29; try clear c30; try clear c32; try clear c34; try clear c35; try clear c38; try clear c42; try clear c43; try clear c49; try clear c52; try clear ba; try clear c53; try clear c54; try clear c56; try clear c57
        try clear bp bq br bs bu bv bw bx f31_0 f31_1 f31_2 f31_3 f31_4 f31_5 f31_6 f31_7; try clear bz bA bB bC bD bE bd be f33_0 f33_1 f33_2 f33_3 f33_4 f33_5 f33_6 f33_7; try clear bf bg bh bi bj bk bm bn f36_0 f36_1 f36_2 f36_3 f36_4 f36_5 f36_6 f36_7; try clear bF bG bH bI bJ bK bL bM f44_0 f44_1 f44_2 f44_3 f44_4 f44_5 f44_6 f44_7; try clear bN bO bP bQ bR bS bT bU f50_0 f50_1 f50_2 f50_3 f50_4 f50_5 f50_6 f50_7; try clear bZ b0 b1 b2 b3 b4 b5 b6 f55_0 f55_1 f55_2 f55_3 f55_4 f55_5 f55_6 f55_7; try clear b7 b8 b9 ca cb cc cd ce f58_0 f58_1 f58_2 f58_3 f58_4 f58_5 f58_6 f58_7
        try clear p2; try clear p6
        obtain ⟨kq, cf, rfl, HA, HJ50, O1, O4, K1, K2, K3, HB⟩ := hcut
        cases kq with
        | zero => exact absurd HA.out (by simp [mD.j3])
        | succ kj50 =>
         have H := HA.out
         clear HA
         simp only [mD.j3] at H
         by_cases c59 : cf = true
         ·subst c59
          have H1 : ((r6_variants.f).bind fun dt => (if 0 ≤ aV then (if aV < (ad.length : Int) then ((r6_Pick.f dt (rd ad aV)).bind fun bb => (mD.l1 kj50 aV bb false 0 aj af ai ah ad ae ag ak al x1_ ap aq x4_ (⟨#[]⟩ : ByteArray))) else (none)) else (none))) = some (r1, r2, r3, r4, r5, r6, r7, r8) := by rw [if_pos rfl] at H; exact H
          clear H
          have H := H1
          clear H1
          replace H := Option.bind_eq_some_iff.mp H
          obtain ⟨dt, eY, H⟩ := H
          replace H : (if 0 ≤ aV then (if aV < (ad.length : Int) then ((r6_Pick.f dt (rd ad aV)).bind fun bb => (mD.l1 kj50 aV bb false 0 aj af ai ah ad ae ag ak al x1_ ap aq x4_ (⟨#[]⟩ : ByteArray))) else (none)) else (none)) = some (r1, r2, r3, r4, r5, r6, r7, r8) := H
          have e9 := Aside0.mk eY
          clear eY
          by_cases c61 : 0 ≤ aV
          ·rw [if_pos c61] at H
           have cy : decide (0 ≤ aV) = true := decide_eq_true c61
           clear c61
           by_cases c62 : aV < (ad.length : Int)
           ·rw [if_pos c62] at H
            have cz : decide (aV < (ad.length : Int)) = true := decide_eq_true c62
            clear c62
            replace H := Option.bind_eq_some_iff.mp H
            obtain ⟨bb, eZ, H⟩ := H
            replace H : (mD.l1 kj50 aV bb false 0 aj af ai ah ad ae ag ak al x1_ ap aq x4_ (⟨#[]⟩ : ByteArray)) = some (r1, r2, r3, r4, r5, r6, r7, r8) := H
            have f5 := Aside0.mk eZ
            clear eZ
            have H' := Aside0.mk H
            clear H
            try go_wp2
            have aD := Aside0.mk (rD_ O1.out)
            have aE := Aside0.mk (rD_ O4.out)
            have aG := Aside0.mk (bD_ K1.out)
            have aH := Aside0.mk (bD_ K2.out)
            have aJ := Aside0.mk (bD_ K3.out)
            have aQ := Aside0.mk (wD_ HB.out)
            clear O1 O4 K1 K2 K3 HB
            have O1 := aD; have O4 := aE; have K1 := aG; have K2 := aH; have K3 := aJ; have HB := aQ
            clear aD aE aG aH aJ aQ
            have p237 : 0 ≤ (aV : Int) := of_decide_eq_true Qa
            have q237 : aV < (ad.length : Int) := of_decide_eq_true Qa
            obtain ⟨ad237, e237, hx237_0⟩ := Kd.at_int eU.out aV p237 q237
            have hw237_0 := hx237_0
            cases e237
            replace hx237_0 := (HB.out.cell (World.block_lt_of_cell? w _ hx237_0)).trans hx237_0
            replace p237 := eq_true p237
            replace q237 := eq_true q237
            refine start_ (n := 8) (S := fun w' => w'.cell? ⟨ab, 0, none⟩ = some (.int .i64 aj) ∧ w'.cell? ⟨ab, 1, none⟩ = some (.int .i64 af) ∧ w'.cell? ⟨ab, 2, none⟩ = some (.int .i64 ai) ∧ w'.cell? ⟨ab, 3, none⟩ = some (.int .i64 ah) ∧ w'.cell? ⟨ab, 4, none⟩ = some (.slice (some ad237) ad.length ar) ∧ w'.cell? ⟨ab, 5, none⟩ = some (.slice ay ae.length au) ∧ w'.cell? ⟨ab, 6, none⟩ = some (.slice aw ag.length av) ∧ w'.cell? ⟨ab, 7, none⟩ = some (.int .i64 ak) ∧ w'.cell? (ad237.add (aV).toNat) = some (.int .i64 (rd ad aV))) (ds := []) #[false, false, false, false, false, false, false, false] (by kernel_rfl) rfl rfl ⟨(bC_ K1.out 0).trans rfl, (bC_ K1.out 1).trans rfl, (bC_ K1.out 2).trans rfl, (bC_ K1.out 3).trans rfl, (bC_ K1.out 4).trans rfl, (bC_ K1.out 5).trans rfl, (bC_ K1.out 6).trans rfl, (bC_ K1.out 7).trans rfl, ((HB.out.cell (World.block_lt_of_cell? w _ hw237_0)).trans hw237_0)⟩ (fun hHeld => ?_); refine with_tabW mD.tab7 mD.bits7 (fun HT_ HW_ => ?_)
            generalize wc.drew = w64 at O1 O4 K1 K2 K3 HB hx237_0 hHeld ⊢
            refine pu_ (i := 1) (N := some 55) HT_ (bl_ 8 2) ?_
            refine pu_ (i := 3) (N := some 57) HT_ (bl_ 8 10) ?_
            refine tk_ (i := 2) (N := some 56) HT_ HW_ (bl_ 8 14) hHeld ?_ (hy := by rintro w' ⟨s0, s1, s2, s3, s4, s5, s6, s7, s8⟩; go_simp; with_reducible rfl)
            refine pu_ (i := 4) (N := some 58) HT_ (bl_ 8 30) ?_
            refine tk_ (i := 5) (N := some 59) HT_ HW_ (bl_ 8 62) hHeld ?_ (hy := by rintro w' ⟨s0, s1, s2, s3, s4, s5, s6, s7, s8⟩; go_simp; with_reducible rfl)
            refine on_ (i := 0) (N := some 54) HT_ (bl_ 8 63) rfl rfl (fun K hK => ?_)
            refine goes_ Try.func39 (by kernel_rfl) rfl #[] (by rfl) rfl rfl Qm ?_
            with_reducible refine (r6_variants.calls  dt _ e9.out).mono ?_
            rintro e w65 ⟨v235, rfl, ho0, hb⟩
            refine ⟨_, rfl, ?_⟩
            have aD := Aside0.mk (Kd.R_elder' (Qr O1.out) (Kd.R_base ho0) hb)
            have aE := Aside0.mk (Kd.R_elder' (Qr O4.out) (Kd.R_base ho0) hb)
            have aG := Aside0.mk (Kd.R_lower (Kd.R_new' (Kd.R_new' ho0 (Kd.R_lt (Qr O1.out))) (Kd.R_lt (Qr O4.out))) (below_size (Qz HB.out az.out aC.out ao.out)))
            have aH := Aside0.mk (blk_below (g := ab) (o := .cells #[.int .i64 aj, .int .i64 af, .int .i64 ai, .int .i64 ah, .slice (some ad237) ad.length ar, .slice ay ae.length au, .slice aw ag.length av, .int .i64 ak] 31 (0, 0)) (Qb K1.out) hb)
            have aJ := Aside0.mk (blk_below (g := ac) (o := .cells zT_ 34 (0, 0)) (Qb K2.out) hb)
            have aQ := Aside0.mk (blk_below (g := aa) (o := .cells #[.string al, u227001, .string ap, .string aq, u227004, .slice none 0 0, .slice none 0 0, .string (⟨#[]⟩ : ByteArray)] 34 (0, 0)) (Qb K3.out) hb)
            have aR := Aside0.mk (below_step (Qz HB.out az.out aC.out ao.out) hb)
            clear O1 O4 K1 K2 K3 HB
            have O1 := aD; have O4 := aE; have dw := aG; have K1 := aH; have K2 := aJ; have K3 := aQ; have HB := aR
            clear aD aE aG aH aJ aQ aR
            (try clear hb); (try clear hb2); (try clear hk); (try clear hi); (try clear ho0)
            obtain ⟨Ao66, co66, eo66⟩ := Kd.R_slice dw.out
            (first | subst eo66 | (injection eo66 with f1_ f2_ f3_; have f4_ := f1_.symm; have f5_ := f3_.symm; clear f1_ f2_ f3_; subst f4_; subst f5_))
            refine hK.out _ _ ⟨(bC_ K1.out 0).trans rfl, (bC_ K1.out 1).trans rfl, (bC_ K1.out 2).trans rfl, (bC_ K1.out 3).trans rfl, (bC_ K1.out 4).trans rfl, (bC_ K1.out 5).trans rfl, (bC_ K1.out 6).trans rfl, (bC_ K1.out 7).trans rfl, ((HB.out.cell (World.block_lt_of_cell? w _ hw237_0)).trans hw237_0)⟩ (fun hHeld => ?_)
            clear hK K
            refine nm_ (some 54) ?_
            refine on_ (i := 6) (N := some 60) HT_ (bl_ 8 127) rfl rfl (fun K hK => ?_)
            refine goes_ Try.func35 (by kernel_rfl) rfl #[.slice Ao66 dt.length co66, .int .i64 (rd ad aV)] (by rfl) rfl rfl Qm ?_
            with_reducible refine (r6_Pick.calls _ _ dt (rd ad aV) bb _ ?side1 ?side2 f5.out).mono ?_
            (case side1 => repeat (first | exact (Kd.R_reads' dw.out).2.2 | (with_reducible refine Kd.C_alloc ?_ _) | (with_reducible refine Kd.C_drewN ?_ _) | (with_reducible refine Kd.C_drew ?_)))
            (case side2 => exact (Kd.R_reads' dw.out).2.1)
            rintro e w' ⟨rfl, ⟨nd, rfl⟩⟩
            refine ⟨_, rfl, ?_⟩
            refine hK.out _ _ ⟨(bC_ K1.out 0).trans rfl, (bC_ K1.out 1).trans rfl, (bC_ K1.out 2).trans rfl, (bC_ K1.out 3).trans rfl, (bC_ K1.out 4).trans rfl, (bC_ K1.out 5).trans rfl, (bC_ K1.out 6).trans rfl, (bC_ K1.out 7).trans rfl, ((HB.out.cell (World.block_lt_of_cell? w _ hw237_0)).trans hw237_0)⟩ (fun hHeld => ?_)
            clear hK K
            refine nm_ (some 60) ?_
            refine pu_ (i := 7) (N := some 5) HT_ (bl_ 8 255) ?_
            refine done_ (done_of HT_.out (by kernel_rfl)) ?_
            try go_wp2
            go_loopg [6, 7] kj50 (fun kq v6 v7 w' => ∃ (dx : Bool) (a7 : Int), v6 = .bool dx ∧ v7 = .int .i64 a7 ∧ Aside0 (mD.l1 kq aV bb dx a7 aj af ai ah ad ae ag ak al x1_ ap aq x4_ (⟨#[]⟩ : ByteArray) = some (r1, r2, r3, r4, r5, r6, r7, r8)) ∧ Aside0 (kq ≤ kj50) ∧ Aside0 (Kd.R Kd.string 9 w' w.heap.size (fun k_ => some k_ ≠ (u227004 : Value).ownBlock) u227001 x1_) ∧ Aside0 (Kd.R Kd.string 9 w' w.heap.size (fun k_ => some k_ ≠ (u227001 : Value).ownBlock) u227004 x4_) ∧ Aside0 (w'.heap[ab]? = some (.cells #[.int .i64 aj, .int .i64 af, .int .i64 ai, .int .i64 ah, (.slice (some ad237) ad.length ar), (.slice ay ae.length au), (.slice aw ag.length av), .int .i64 ak] 31 (0, 0))) ∧ Aside0 (w'.heap[ac]? = some (.cells zT_ 34 (0, 0))) ∧ Aside0 (w'.heap[aa]? = some (.cells #[.string al, u227001, .string ap, .string aq, u227004, (.slice none 0 0), (.slice none 0 0), .string (⟨#[]⟩ : ByteArray)] 34 (0, 0))) ∧ Aside0 (Below w.heap.size w w'))
            case atStart => exact ⟨(false), (0), Qs, Qs, H', ⟨Nat.le_refl _⟩, ⟨by (with_reducible repeat (first | apply rA_ | apply rN_ | apply rD_)); exact Kd.R_mono O1.out (fun _ hk => hk.1)⟩, ⟨by (with_reducible repeat (first | apply rA_ | apply rN_ | apply rD_)); exact Kd.R_mono O4.out (fun _ hk => hk.1)⟩, ⟨Qb K1.out⟩, ⟨Qb K2.out⟩, ⟨Qb K3.out⟩, ⟨Qz HB.out az.out aC.out ao.out⟩⟩
            case round =>
             clear H'
             try clear c2; try clear p2; try clear q2; try clear hx2; try clear c3; try clear c4; try clear c5; try clear c6; try clear p6; try clear p21; try clear q21; try clear hx21; try clear c28; try clear a6; try clear a8; try clear c29; try clear c30; try clear c32; try clear c34; try clear c35; try clear c38; try clear c39; try clear c42; try clear c43; try clear c49; try clear c52; try clear ba; try clear c53; try clear c54; try clear c56; try clear c57; try clear c59; try clear c61; try clear cy; try clear c62; try clear cz
             try clear bp bq br bs bu bv bw bx f31_0 f31_1 f31_2 f31_3 f31_4 f31_5 f31_6 f31_7; try clear bz bA bB bC bD bE bd be f33_0 f33_1 f33_2 f33_3 f33_4 f33_5 f33_6 f33_7; try clear bf bg bh bi bj bk bm bn f36_0 f36_1 f36_2 f36_3 f36_4 f36_5 f36_6 f36_7; try clear bF bG bH bI bJ bK bL bM f44_0 f44_1 f44_2 f44_3 f44_4 f44_5 f44_6 f44_7; try clear bN bO bP bQ bR bS bT bU f50_0 f50_1 f50_2 f50_3 f50_4 f50_5 f50_6 f50_7; try clear bZ b0 b1 b2 b3 b4 b5 b6 f55_0 f55_1 f55_2 f55_3 f55_4 f55_5 f55_6 f55_7; try clear b7 b8 b9 ca cb cc cd ce f58_0 f58_1 f58_2 f58_3 f58_4 f58_5 f58_6 f58_7
             try clear hx237_0; try clear p2; try clear p237; try clear p6; try clear q237
             obtain ⟨dx, a7, rfl, rfl, HA, HK5, O1, O4, K1, K2, K3, HB⟩ := hrel
             cases gk with
             | zero => exact absurd HA.out (by simp [mD.l1])
             | succ k5 =>
              have H := HA.out
              clear HA
              simp only [mD.l1] at H
              by_cases c67 : a7 < (x4_.length : Int)
              ·rw [if_pos c67] at H
               have cA : decide (a7 < (x4_.length : Int)) = true := decide_eq_true c67
               clear c67
               by_cases c68 : dx = true
               ·subst c68
                have H1 : (mD.l1 k5 aV bb true (wrap64 (a7 + 1)) aj af ai ah ad ae ag ak al x1_ ap aq x4_ (⟨#[]⟩ : ByteArray)) = some (r1, r2, r3, r4, r5, r6, r7, r8) := by rw [if_pos rfl] at H; exact H
                clear H
                have H := H1
                clear H1
                have H' := Aside0.mk H
                clear H
                have hnb69 := N31.out
                have hnc69 := N13.out
                have hnb70 := N32.out
                have hnc70 := N23.out
                obtain ⟨cB, cC, cD, cE, cF, cG, cH, cI, f71_0, f71_1, f71_2, f71_3, f71_4, f71_5, f71_6, f71_7⟩ := cells8 K3.out
                obtain ⟨Ao72, co72, eo72⟩ := Kd.R_slice O4.out
                subst eo72
                go_wp2
                go_roundg k5
                case measure => have := HJ7.out; have := HJ36.out; have := HK3.out; have := HJ50.out; have := HK5.out; omega
                case rel => exact ⟨(true), (wrap64 (a7 + 1)), Qs, Qs, H', ⟨by have := HJ7.out; have := HJ36.out; have := HK3.out; have := HJ50.out; have := HK5.out; omega⟩, ⟨Qr O1.out⟩, ⟨Qr O4.out⟩, ⟨Qb K1.out⟩, ⟨Qb K2.out⟩, ⟨Qb K3.out⟩, ⟨Qz HB.out az.out aC.out ao.out⟩⟩
               ·replace c68 := Bool.eq_false_iff.mpr c68
                subst c68
                have H1 : (if 0 ≤ a7 then (mD.l1 k5 aV bb ((rdOf ByteArray.empty x4_ a7).toList == bb.toList) (wrap64 (a7 + 1)) aj af ai ah ad ae ag ak al x1_ ap aq x4_ (⟨#[]⟩ : ByteArray)) else (none)) = some (r1, r2, r3, r4, r5, r6, r7, r8) := by rw [if_neg (show ¬ (false = true) by decide)] at H; exact H
                clear H
                have H := H1
                clear H1
                by_cases c73 : 0 ≤ a7
                ·rw [if_pos c73] at H
                 have dy : decide (0 ≤ a7) = true := decide_eq_true c73
                 clear c73
                 have H' := Aside0.mk H
                 clear H
                 have hnb74 := N31.out
                 have hnc74 := N13.out
                 have hnb75 := N32.out
                 have hnc75 := N23.out
                 obtain ⟨cJ, cK, cM, cN, cO, cP, cQ, cS, f76_0, f76_1, f76_2, f76_3, f76_4, f76_5, f76_6, f76_7⟩ := cells8 K3.out
                 obtain ⟨Ao77, co77, eo77⟩ := Kd.R_slice O4.out
                 subst eo77
                 have p239 : 0 ≤ (a7 : Int) := of_decide_eq_true Qa
                 have q239 : a7 < (x4_.length : Int) := of_decide_eq_true Qa
                 obtain ⟨ad239, e239, hx239_0⟩ := Kd.at_string (Kd.R_reads' O4.out).2.2 a7 p239 q239
                 cases e239
                 replace p239 := eq_true p239
                 replace q239 := eq_true q239
                 go_wp2
                 go_roundg k5
                 case measure => have := HJ7.out; have := HJ36.out; have := HK3.out; have := HJ50.out; have := HK5.out; omega
                 case rel => exact ⟨(((rdOf ByteArray.empty x4_ a7).toList == bb.toList)), (wrap64 (a7 + 1)), Qs, Qs, H', ⟨by have := HJ7.out; have := HJ36.out; have := HK3.out; have := HJ50.out; have := HK5.out; omega⟩, ⟨Qr O1.out⟩, ⟨Qr O4.out⟩, ⟨Qb K1.out⟩, ⟨Qb K2.out⟩, ⟨Qb K3.out⟩, ⟨Qz HB.out az.out aC.out ao.out⟩⟩
                ·rw [if_neg c73] at H
                 exact absurd H (by simp)
              ·rw [if_neg c67] at H
               have cA : decide (a7 < (x4_.length : Int)) = false := decide_eq_false c67
               clear c67
               by_cases c78 : dx = true
               ·subst c78
                have H1 : (mD.l0 k5 (wrap64 (aV + 1)) aj af ai ah ad ae ag ak al x1_ ap aq x4_ (⟨#[]⟩ : ByteArray)) = some (r1, r2, r3, r4, r5, r6, r7, r8) := by rw [if_pos rfl] at H; exact H
                clear H
                have H := H1
                clear H1
                have H' := Aside0.mk H
                clear H
                have hnb79 := N31.out
                have hnc79 := N13.out
                have hnb80 := N32.out
                have hnc80 := N23.out
                obtain ⟨cU, cV, cW, cX, cY, cZ, c0, da, f81_0, f81_1, f81_2, f81_3, f81_4, f81_5, f81_6, f81_7⟩ := cells8 K3.out
                obtain ⟨Ao82, co82, eo82⟩ := Kd.R_slice O4.out
                subst eo82
                go_wp2
                go_roundg k5
                case measure => have := HJ7.out; have := HJ36.out; have := HK3.out; have := HJ50.out; have := HK5.out; omega
                case rel => exact ⟨(wrap64 (aV + 1)), (x4_), (.slice Ao82 x4_.length co82), Qs, H', ⟨by have := HJ7.out; have := HJ36.out; have := HK3.out; have := HJ50.out; have := HK5.out; omega⟩, ⟨Qr O1.out⟩, ⟨Qr O4.out⟩, ⟨Qb K1.out⟩, ⟨Qb K2.out⟩, ⟨Qb K3.out⟩, ⟨Qz HB.out az.out aC.out ao.out⟩⟩
               ·replace c78 := Bool.eq_false_iff.mpr c78
                subst c78
                have H1 : (if x4_.length < 8796093022208 then (mD.l0 k5 (wrap64 (aV + 1)) aj af ai ah ad ae ag ak al x1_ ap aq (x4_ ++ [bb]) (⟨#[]⟩ : ByteArray)) else (none)) = some (r1, r2, r3, r4, r5, r6, r7, r8) := by rw [if_neg (show ¬ (false = true) by decide)] at H; exact H
                clear H
                have H := H1
                clear H1
                by_cases c83 : x4_.length < 8796093022208
                ·rw [if_pos c83] at H
                 have e0 := Aside0.mk c83
                 clear c83
                 obtain ⟨dz, cj⟩ : ∃ y_ : List ByteArray, y_ = (x4_ ++ [bb]) := ⟨_, rfl⟩
                 replace H : (mD.l0 k5 (wrap64 (aV + 1)) aj af ai ah ad ae ag ak al x1_ ap aq dz (⟨#[]⟩ : ByteArray)) = some (r1, r2, r3, r4, r5, r6, r7, r8) := by first | (rw [cj]; with_reducible exact H) | (have H2_ := (Option.bind_some _ _).symm.trans H; rw [cj]; with_reducible exact H2_) | (have H2_ := (Option.bind_some _ _).symm.trans H; with_reducible exact H2_) | with_reducible exact H | (rw [cj]; exact H) | exact H
                 have e1 := Aside0.mk cj
                 clear cj
                 have H' := Aside0.mk H
                 clear H
                 have hnb84 := N31.out
                 have hnc84 := N13.out
                 have hnb85 := N32.out
                 have hnc85 := N23.out
                 obtain ⟨db, dc, dd, de, df, dg, dh, di, f86_0, f86_1, f86_2, f86_3, f86_4, f86_5, f86_6, f86_7⟩ := cells8 K3.out
                 obtain ⟨Ao87, co87, eo87⟩ := Kd.R_slice O4.out
                 subst eo87
                 go_wp2_with (first | ((with_reducible refine gate_builtin (b := .append) (xs := #[.tmp 81, .tmp 83]) rfl ?_); at_builtin; refine Kd.R_append Kd.string (w0 := w) w.heap.size rfl (.tmp 81) (.tmp 83) 25 9 (.string ⟨#[]⟩) 16 rfl Try.underlying25 info9 rfl (by decide) (by omega) (.slice Ao87 x4_.length co87) x4_ bb [.string bb] (fun k_ => some k_ ≠ (u227001 : Value).ownBlock) (fun _ => False) rfl rfl ?aP (fun _ hk => hk.elim) ?aF ?aO ?aB ?aS ?aL ?_; (case aP => exact rfl); (case aB => exact (Qz HB.out az.out aC.out ao.out)); (case aF => exact (fun k_ hk => Kd.fresh' (Kd.R_lt (Qr O1.out)) k_ hk)); (case aO => exact (Qr O4.out)); (case aS => exact (below_size (Qz HB.out az.out aC.out ao.out))); (case aL => have := e0.out; omega); intro v241 w88 ho hb hg hat; rw [← e1.out] at ho; have aD := Aside0.mk (Kd.R_after (ok := (fun _ => True)) (by (with_reducible repeat (first | apply rA_ | apply rN_ | apply rD_)); exact Kd.R_mono O1.out (fun _ hk => ⟨trivial, hk⟩)) hg hat); have aE := Aside0.mk (blk_grown (g := ab) (o := .cells #[.int .i64 aj, .int .i64 af, .int .i64 ai, .int .i64 ah, .slice (some ad237) ad.length ar, .slice ay ae.length au, .slice aw ag.length av, .int .i64 ak] 31 (0, 0)) (Qb K1.out) hg (Kd.R_ne O4.out K1.out (by decide))); have aG := Aside0.mk (blk_grown (g := ac) (o := .cells zT_ 34 (0, 0)) (Qb K2.out) hg (Kd.R_ne O4.out K2.out (by decide))); have aH := Aside0.mk (blk_grown (g := aa) (o := .cells #[.string al, u227001, .string ap, .string aq, .slice Ao87 x4_.length co87, .slice none 0 0, .slice none 0 0, .string (⟨#[]⟩ : ByteArray)] 34 (0, 0)) (Qb K3.out) hg (Kd.R_ne O4.out K3.out (by decide))); have aJ := Aside0.mk (hb); have aQ := Aside0.mk (ho); clear O1; clear K1; clear K2; clear K3; clear HB; clear O4; have O1 := aD; have K1 := aE; have K2 := aG; have K3 := aH; have HB := aJ; have eb := aQ; clear aD aE aG aH aJ aQ; clear ho hb hg hat; obtain ⟨Ao89, co89, eo89⟩ := Kd.R_slice eb.out; subst eo89; obtain ⟨dj, dk, dl, dm, dn, dp, dq, dr, f90_0, f90_1, f90_2, f90_3, f90_4, f90_5, f90_6, f90_7⟩ := cells8 K3.out))
                 go_roundg k5
                 case measure => have := HJ7.out; have := HJ36.out; have := HK3.out; have := HJ50.out; have := HK5.out; omega
                 case rel => exact ⟨(wrap64 (aV + 1)), (dz), (.slice Ao89 dz.length co89), Qs, H', ⟨by have := HJ7.out; have := HJ36.out; have := HK3.out; have := HJ50.out; have := HK5.out; omega⟩, ⟨by (with_reducible repeat (first | apply rA_ | apply rN_ | apply rD_)); exact Kd.R_mono (Kd.R_far (p := ⟨aa, 4, none⟩) (Kd.R_types O1.out K3.out (by decide)) (fun _ hk => hk.2) (.slice Ao89 dz.length co89)) (fun _ hk => hk.1.2)⟩, ⟨by (with_reducible repeat (first | apply rA_ | apply rN_ | apply rD_)); exact Kd.R_mono (Kd.R_far (p := ⟨aa, 4, none⟩) (Kd.R_types eb.out K3.out (by decide)) (fun _ hk => hk.2) (.slice Ao89 dz.length co89)) (fun _ hk => hk.1)⟩, ⟨by (with_reducible repeat (first | refine bN_ ?_ _ | refine bD_ ?_ | refine bA_ ?_ _)); refine blk_far ?_ N13.out _; (with_reducible repeat (first | refine bN_ ?_ _ | refine bD_ ?_ | refine bA_ ?_ _)); exact K1.out⟩, ⟨by (with_reducible repeat (first | refine bN_ ?_ _ | refine bD_ ?_ | refine bA_ ?_ _)); refine blk_far ?_ N23.out _; (with_reducible repeat (first | refine bN_ ?_ _ | refine bD_ ?_ | refine bA_ ?_ _)); exact K2.out⟩, ⟨by (with_reducible repeat (first | refine bN_ ?_ _ | refine bD_ ?_ | refine bA_ ?_ _)); refine blk_put (cs := #[.string al, u227001, .string ap, .string aq, .slice Ao87 x4_.length co87, .slice none 0 0, .slice none 0 0, .string (⟨#[]⟩ : ByteArray)]) ?_ 4 _ rfl; (with_reducible repeat (first | refine bN_ ?_ _ | refine bD_ ?_ | refine bA_ ?_ _)); exact K3.out⟩, ⟨Qz HB.out az.out aC.out ao.out⟩⟩
                ·rw [if_neg c83] at H
                 exact absurd H (by simp)
           ·rw [if_neg c62] at H
            exact absurd H (by simp)
          ·rw [if_neg c61] at H
           exact absurd H (by simp)
         ·replace c59 := Bool.eq_false_iff.mpr c59
          subst c59
          have H1 : (mD.l2 kj50 0 aj af ai ah ad ae ag ak al x1_ ap aq x4_ ([] : List (S62)) (⟨#[]⟩ : ByteArray)) = some (r1, r2, r3, r4, r5, r6, r7, r8) := by rw [if_neg (show ¬ (false = true) by decide)] at H; exact H
          clear H
          have H := H1
          clear H1
          have H' := Aside0.mk H
          clear H
          go_wp2
          go_loopg [8] kj50 (fun kq v8 w' => ∃ (aK : Int) (x5_ : List (S62)) (u227005 : Value), v8 = .int .i64 aK ∧ Aside0 (mD.l2 kq aK aj af ai ah ad ae ag ak al x1_ ap aq x4_ x5_ (⟨#[]⟩ : ByteArray) = some (r1, r2, r3, r4, r5, r6, r7, r8)) ∧ Aside0 (kq ≤ kj50) ∧ Aside0 (Kd.R Kd.string 9 w' w.heap.size (fun k_ => some k_ ≠ (u227004 : Value).ownBlock) u227001 x1_) ∧ Aside0 (Kd.R Kd.string 9 w' w.heap.size (fun k_ => some k_ ≠ (u227001 : Value).ownBlock) u227004 x4_) ∧ Aside0 (Kd.S k62 62 w' w.heap.size (fun k_ => some k_ ≠ (u227001 : Value).ownBlock ∧ some k_ ≠ (u227004 : Value).ownBlock) u227005 x5_) ∧ Aside0 (w'.heap[ab]? = some (.cells #[.int .i64 aj, .int .i64 af, .int .i64 ai, .int .i64 ah, (.slice ax ad.length ar), (.slice ay ae.length au), (.slice aw ag.length av), .int .i64 ak] 31 (0, 0))) ∧ Aside0 (w'.heap[ac]? = some (.cells zT_ 34 (0, 0))) ∧ Aside0 (w'.heap[aa]? = some (.cells #[.string al, u227001, .string ap, .string aq, u227004, u227005, (.slice none 0 0), .string (⟨#[]⟩ : ByteArray)] 34 (0, 0))) ∧ Aside0 (Below w.heap.size w w'))
          case atStart => exact ⟨(0), (([] : List (S62))), (.slice none 0 0), Qs, H', ⟨Nat.le_refl _⟩, ⟨Qr O1.out⟩, ⟨Qr O4.out⟩, ⟨by first | exact Kd.S_nil _ _ _ _ _ | exact Kd.N_nil _ _ _ _ _ | exact Kd.V_nil _ _ _ _ _ | exact Kd.Q_nil _ _ _ _ _ | exact Kd.R_nil _ _ _ _ _⟩, ⟨Qb K1.out⟩, ⟨Qb K2.out⟩, ⟨Qb K3.out⟩, ⟨Qz HB.out az.out aC.out ao.out⟩⟩
          case round =>
           clear H'
           try clear c2; try clear p2; try clear q2; try clear hx2; try clear c3; try clear c4; try clear c5; try clear c6; try clear p6; try clear c7; try clear c8; try clear p21; try clear q21; try clear hx21; try clear c28; try clear a6; try clear a8; try clear c29; try clear c30; try clear c32; try clear c34; try clear c35; try clear c38; try clear c39; try clear c42; try clear c43; try clear c49; try clear c52; try clear ba; try clear c53; try clear c54; try clear c56; try clear c57; try clear c59; try clear c61; try clear cy; try clear c62; try clear cz; try clear p64; try clear c67; try clear cA; try clear c68; try clear c69; try clear c70; try clear c73; try clear dy; try clear c74; try clear c75; try clear c78; try clear c79; try clear c80; try clear c83; try clear c84; try clear c85
           try clear bp bq br bs bu bv bw bx f31_0 f31_1 f31_2 f31_3 f31_4 f31_5 f31_6 f31_7; try clear bz bA bB bC bD bE bd be f33_0 f33_1 f33_2 f33_3 f33_4 f33_5 f33_6 f33_7; try clear bf bg bh bi bj bk bm bn f36_0 f36_1 f36_2 f36_3 f36_4 f36_5 f36_6 f36_7; try clear bF bG bH bI bJ bK bL bM f44_0 f44_1 f44_2 f44_3 f44_4 f44_5 f44_6 f44_7; try clear bN bO bP bQ bR bS bT bU f50_0 f50_1 f50_2 f50_3 f50_4 f50_5 f50_6 f50_7; try clear bZ b0 b1 b2 b3 b4 b5 b6 f55_0 f55_1 f55_2 f55_3 f55_4 f55_5 f55_6 f55_7; try clear b7 b8 b9 ca cb cc cd ce f58_0 f58_1 f58_2 f58_3 f58_4 f58_5 f58_6 f58_7; try clear cB cC cD cE cF cG cH cI f71_0 f71_1 f71_2 f71_3 f71_4 f71_5 f71_6 f71_7; try clear cJ cK cM cN cO cP cQ cS f76_0 f76_1 f76_2 f76_3 f76_4 f76_5 f76_6 f76_7; try clear cU cV cW cX cY cZ c0 da f81_0 f81_1 f81_2 f81_3 f81_4 f81_5 f81_6 f81_7; try clear db dc dd de df dg dh di f86_0 f86_1 f86_2 f86_3 f86_4 f86_5 f86_6 f86_7; try clear dj dk dl dm dn dp dq dr f90_0 f90_1 f90_2 f90_3 f90_4 f90_5 f90_6 f90_7
           try clear hx237_0; try clear hx239_0; try clear p2; try clear p21; try clear p237; try clear p239; try clear p6; try clear q2; try clear q21; try clear q237; try clear q239
           obtain ⟨aK, x5_, u227005, rfl, HA, HK5, O1, O4, O5, K1, K2, K3, HB⟩ := hrel
           cases gk with
           | zero => exact absurd HA.out (by simp [mD.l2])
           | succ k5 =>
            have H := HA.out
            clear HA
            simp only [mD.l2] at H
            have ej := Aside0.mk H
            clear H
            go_upto_region 16 with (fail)
            go_cut [94] (fun v94 wc => ∃ (kq : Nat) (cg : Bool), v94 = .bool cg ∧ Aside0 (mD.j6 kq aK cg aj af ai ah ad ae ag ak al x1_ ap aq x4_ x5_ (⟨#[]⟩ : ByteArray) = some (r1, r2, r3, r4, r5, r6, r7, r8)) ∧ Aside0 (kq ≤ k5) ∧ Aside0 (Kd.R Kd.string 9 wc w.heap.size (fun k_ => some k_ ≠ (u227004 : Value).ownBlock) u227001 x1_) ∧ Aside0 (Kd.R Kd.string 9 wc w.heap.size (fun k_ => some k_ ≠ (u227001 : Value).ownBlock) u227004 x4_) ∧ Aside0 (Kd.S k62 62 wc w.heap.size (fun k_ => some k_ ≠ (u227001 : Value).ownBlock ∧ some k_ ≠ (u227004 : Value).ownBlock) u227005 x5_) ∧ Aside0 (wc.heap[ab]? = some (.cells #[.int .i64 aj, .int .i64 af, .int .i64 ai, .int .i64 ah, (.slice ax ad.length ar), (.slice ay ae.length au), (.slice aw ag.length av), .int .i64 ak] 31 (0, 0))) ∧ Aside0 (wc.heap[ac]? = some (.cells zT_ 34 (0, 0))) ∧ Aside0 (wc.heap[aa]? = some (.cells #[.string al, u227001, .string ap, .string aq, u227004, u227005, (.slice none 0 0), .string (⟨#[]⟩ : ByteArray)] 34 (0, 0))) ∧ Aside0 (Below w.heap.size w wc))
            case first =>
             have H := ej.out
             clear ej
             by_cases c92 : aK < (ae.length : Int)
             ·rw [if_pos c92] at H
              have bW : decide (aK < (ae.length : Int)) = true := decide_eq_true c92
              clear c92
              (first | rw [bW] | (simp only [i64_w, i32_w]; rw [bW]) | skip)
              have H' := Aside0.mk H
              clear H
              have hnb93 := N12.out
              have hnc93 := N21.out
              have hnb94 := N13.out
              have hnc94 := N31.out
              obtain ⟨dA, dB, dC, dD, dE, dF, dG, dH, f95_0, f95_1, f95_2, f95_3, f95_4, f95_5, f95_6, f95_7⟩ := cells8 K1.out
              go_wp2
              go_meet
              case rel => exact ⟨_, (decide (aK < 3)), Qs, H', ⟨by have := HJ7.out; have := HJ36.out; have := HK3.out; have := HJ50.out; have := HK5.out; first | omega | exact Nat.le_refl _⟩, ⟨Qr O1.out⟩, ⟨Qr O4.out⟩, ⟨by (with_reducible repeat (first | apply tA_ | apply tN_ | apply tD_)); exact O5.out⟩, ⟨Qb K1.out⟩, ⟨Qb K2.out⟩, ⟨Qb K3.out⟩, ⟨Qz HB.out az.out aC.out ao.out⟩⟩
             ·rw [if_neg c92] at H
              have bW : decide (aK < (ae.length : Int)) = false := decide_eq_false c92
              clear c92
              (first | rw [bW] | (simp only [i64_w, i32_w]; rw [bW]) | skip)
              have H' := Aside0.mk H
              clear H
              have hnb96 := N12.out
              have hnc96 := N21.out
              have hnb97 := N13.out
              have hnc97 := N31.out
              obtain ⟨dI, dJ, dK, dL, dM, dN, dO, dP, f98_0, f98_1, f98_2, f98_3, f98_4, f98_5, f98_6, f98_7⟩ := cells8 K1.out
              go_wp2
              go_meet
              case rel => exact ⟨_, (false), Qs, H', ⟨by have := HJ7.out; have := HJ36.out; have := HK3.out; have := HJ50.out; have := HK5.out; first | omega | exact Nat.le_refl _⟩, ⟨Qr O1.out⟩, ⟨Qr O4.out⟩, ⟨by (with_reducible repeat (first | apply tA_ | apply tN_ | apply tD_)); exact O5.out⟩, ⟨Qb K1.out⟩, ⟨Qb K2.out⟩, ⟨Qb K3.out⟩, ⟨Qz HB.out az.out aC.out ao.out⟩⟩
            case rest =>
             clear ej
             try clear c2; try clear p2; try clear q2; try clear hx2; try clear c3; try clear c4; try clear c5; try clear c6; try clear p6; try clear c7; try clear c8; try clear c9; try clear p21; try clear q21; try clear hx21; try clear c28; try clear a6; try clear a8; try clear c29; try clear c30; try clear c32; try clear c34; try clear c35; try clear c38; try clear c39; try clear c42; try clear c43; try clear c49; try clear c52; try clear ba; try clear c53; try clear c54; try clear c56; try clear c57; try clear c59; try clear c61; try clear cy; try clear c62; try clear cz; try clear p64; try clear c67; try clear cA; try clear c68; try clear c69; try clear c70; try clear c73; try clear dy; try clear c74; try clear c75; try clear c78; try clear c79; try clear c80; try clear c83; try clear c84; try clear c85; try clear c92; try clear bW; try clear c93; try clear c94; try clear c96; try clear c97
             try clear bp bq br bs bu bv bw bx f31_0 f31_1 f31_2 f31_3 f31_4 f31_5 f31_6 f31_7; try clear bz bA bB bC bD bE bd be f33_0 f33_1 f33_2 f33_3 f33_4 f33_5 f33_6 f33_7; try clear bf bg bh bi bj bk bm bn f36_0 f36_1 f36_2 f36_3 f36_4 f36_5 f36_6 f36_7; try clear bF bG bH bI bJ bK bL bM f44_0 f44_1 f44_2 f44_3 f44_4 f44_5 f44_6 f44_7; try clear bN bO bP bQ bR bS bT bU f50_0 f50_1 f50_2 f50_3 f50_4 f50_5 f50_6 f50_7; try clear bZ b0 b1 b2 b3 b4 b5 b6 f55_0 f55_1 f55_2 f55_3 f55_4 f55_5 f55_6 f55_7; try clear b7 b8 b9 ca cb cc cd ce f58_0 f58_1 f58_2 f58_3 f58_4 f58_5 f58_6 f58_7; try clear cB cC cD cE cF cG cH cI f71_0 f71_1 f71_2 f71_3 f71_4 f71_5 f71_6 f71_7; try clear cJ cK cM cN cO cP cQ cS f76_0 f76_1 f76_2 f76_3 f76_4 f76_5 f76_6 f76_7; try clear cU cV cW cX cY cZ c0 da f81_0 f81_1 f81_2 f81_3 f81_4 f81_5 f81_6 f81_7; try clear db dc dd de df dg dh di f86_0 f86_1 f86_2 f86_3 f86_4 f86_5 f86_6 f86_7; try clear dj dk dl dm dn dp dq dr f90_0 f90_1 f90_2 f90_3 f90_4 f90_5 f90_6 f90_7; try clear dA dB dC dD dE dF dG dH f95_0 f95_1 f95_2 f95_3 f95_4 f95_5 f95_6 f95_7; try clear dI dJ dK dL dM dN dO dP f98_0 f98_1 f98_2 f98_3 f98_4 f98_5 f98_6 f98_7
             try clear hx237_0; try clear hx239_0; try clear p2; try clear p21; try clear p237; try clear p239; try clear p6; try clear p64; try clear q2; try clear q21; try clear q237; try clear q239
             obtain ⟨kq, cg, rfl, HA, HJ90, O1, O4, O5, K1, K2, K3, HB⟩ := hcut
             cases kq with
             | zero => exact absurd HA.out (by simp [mD.j6])
             | succ kj90 =>
              have H := HA.out
              clear HA
              simp only [mD.j6] at H
              by_cases c99 : cg = true
              ·subst c99
               have H1 : ((some (([(⟨#[117]⟩ : ByteArray), (⟨#[116]⟩ : ByteArray), (⟨#[97]⟩ : ByteArray), (⟨#[57]⟩ : ByteArray)] : List ByteArray) : List ByteArray)).bind fun a1 => (if 0 ≤ aK then (if aK < (a1.length : Int) then (if aK < (ae.length : Int) then (mD.l3 kj90 aK (Int.tmod (wrap64 ((Int.tmod (rd ae aK) 1000) + 1000)) 1000) 0 aj af ai ah ad ae ag ak al x1_ ap aq x4_ x5_ (⟨#[]⟩ : ByteArray) (rdOf ByteArray.empty a1 aK) ([] : List ByteArray)) else (none)) else (none)) else (none))) = some (r1, r2, r3, r4, r5, r6, r7, r8) := by rw [if_pos rfl] at H; exact H
               clear H
               have H := H1
               clear H1
               obtain ⟨a1, ck⟩ : ∃ y_ : List ByteArray, y_ = (([(⟨#[117]⟩ : ByteArray), (⟨#[116]⟩ : ByteArray), (⟨#[97]⟩ : ByteArray), (⟨#[57]⟩ : ByteArray)] : List ByteArray)) := ⟨_, rfl⟩
               replace H : (if 0 ≤ aK then (if aK < (a1.length : Int) then (if aK < (ae.length : Int) then (mD.l3 kj90 aK (Int.tmod (wrap64 ((Int.tmod (rd ae aK) 1000) + 1000)) 1000) 0 aj af ai ah ad ae ag ak al x1_ ap aq x4_ x5_ (⟨#[]⟩ : ByteArray) (rdOf ByteArray.empty a1 aK) ([] : List ByteArray)) else (none)) else (none)) else (none)) = some (r1, r2, r3, r4, r5, r6, r7, r8) := by first | (rw [ck]; with_reducible exact H) | (have H2_ := (Option.bind_some _ _).symm.trans H; rw [ck]; with_reducible exact H2_) | (have H2_ := (Option.bind_some _ _).symm.trans H; with_reducible exact H2_) | with_reducible exact H | (rw [ck]; exact H) | exact H
               have ec := Aside0.mk ck
               clear ck
               by_cases c100 : 0 ≤ aK
               ·rw [if_pos c100] at H
                have ek : decide (0 ≤ aK) = true := decide_eq_true c100
                clear c100
                by_cases c101 : aK < (a1.length : Int)
                ·rw [if_pos c101] at H
                 have el : decide (aK < (a1.length : Int)) = true := decide_eq_true c101
                 clear c101
                 by_cases c102 : aK < (ae.length : Int)
                 ·rw [if_pos c102] at H
                  have em : decide (aK < (ae.length : Int)) = true := decide_eq_true c102
                  clear c102
                  have H' := Aside0.mk H
                  clear H
                  go_wp2_with (first | ((with_reducible refine gate_dst (N := 97) rfl ?_); refine Kd.R_lit Kd.string _ 9 ?hg (N := 97) ?hd (xs := ([(⟨#[117]⟩ : ByteArray), (⟨#[116]⟩ : ByteArray), (⟨#[97]⟩ : ByteArray), (⟨#[57]⟩ : ByteArray)] : List ByteArray)) (inner := [.string (⟨#[117]⟩ : ByteArray), .string (⟨#[116]⟩ : ByteArray), .string (⟨#[97]⟩ : ByteArray), .string (⟨#[57]⟩ : ByteArray)]) (ok := fun _ => True) (okp := fun _ => True) ?hr ?hp (fun _ hk => hk) trivial (Below.refl _ _) (Nat.le_refl _) (by simp) ?_; (case hd => rfl); (case hg => rfl); (case hr => first | (go_simp; done) | (go_simp; rfl)); (case hp => exact (Reps.one (show Kd.M Kd.string _ _ _ (⟨#[117]⟩ : ByteArray) [.string (⟨#[117]⟩ : ByteArray)] from rfl) (Reps.one (show Kd.M Kd.string _ _ _ (⟨#[116]⟩ : ByteArray) [.string (⟨#[116]⟩ : ByteArray)] from rfl) (Reps.one (show Kd.M Kd.string _ _ _ (⟨#[97]⟩ : ByteArray) [.string (⟨#[97]⟩ : ByteArray)] from rfl) (Reps.one (show Kd.M Kd.string _ _ _ (⟨#[57]⟩ : ByteArray) [.string (⟨#[57]⟩ : ByteArray)] from rfl) (Reps.none _ _)))))); intro v244 w103 ho104 hb hg_ hnew_; clear hg_ hnew_; (first | rw [← ec.out] at ho104 | (simp only [Int.reduceToNat] at ho104; rw [← ec.out] at ho104)); have aD := Aside0.mk (Kd.R_elder' (Qr O1.out) (Kd.R_base ho104) hb); have aE := Aside0.mk (Kd.R_elder' (Qr O4.out) (Kd.R_base ho104) hb); have aG := Aside0.mk (Kd.S_elder' (by (with_reducible repeat (first | apply tA_ | apply tN_ | apply tD_)); exact O5.out) (Kd.R_base ho104) hb); have aH := Aside0.mk (Kd.R_lower (Kd.R_new' (Kd.R_new' ho104 (Kd.R_lt (Qr O1.out))) (Kd.R_lt (Qr O4.out))) (below_size (Qz HB.out az.out aC.out ao.out))); have aJ := Aside0.mk (blk_below (g := ab) (o := .cells #[.int .i64 aj, .int .i64 af, .int .i64 ai, .int .i64 ah, .slice ax ad.length ar, .slice ay ae.length au, .slice aw ag.length av, .int .i64 ak] 31 (0, 0)) (Qb K1.out) hb); have aQ := Aside0.mk (blk_below (g := ac) (o := .cells zT_ 34 (0, 0)) (Qb K2.out) hb); have aR := Aside0.mk (blk_below (g := aa) (o := .cells #[.string al, u227001, .string ap, .string aq, u227004, u227005, .slice none 0 0, .string (⟨#[]⟩ : ByteArray)] 34 (0, 0)) (Qb K3.out) hb); have aY := Aside0.mk (below_step (Qz HB.out az.out aC.out ao.out) hb); clear O1; clear O4; clear O5; clear K1; clear K2; clear K3; clear HB; have O1 := aD; have O4 := aE; have O5 := aG; have cl := aH; have K1 := aJ; have K2 := aQ; have K3 := aR; have HB := aY; clear aD aE aG aH aJ aQ aR aY; clear hb ho104; obtain ⟨Ao105, co105, eo105⟩ := Kd.R_slice cl.out; subst eo105; have p246 : 0 ≤ (aK : Int) := of_decide_eq_true Qa; have q246 : aK < (a1.length : Int) := of_decide_eq_true Qa; obtain ⟨ad246, e246, hx246_0⟩ := Kd.at_string (Kd.R_reads' cl.out).2.2 aK p246 q246; cases e246; replace p246 := eq_true p246; replace q246 := eq_true q246) | ((with_reducible refine gate_dst (N := 9) rfl ?_); refine box_event ?hg (N := 9) ?hd (cs := #[.string (⟨#[]⟩ : ByteArray), .slice none 0 0]) (t := 62) ?hr ?_; (case hd => rfl); (case hg => rfl); (case hr => first | (go_simp; done) | (go_simp; rfl)); intro aN hg w106 hbox hb; have aD := Aside0.mk (Kd.R_below (Qr O1.out) hb); have aE := Aside0.mk (Kd.R_below (Qr O4.out) hb); have aG := Aside0.mk (Kd.S_below (Kd.S_elderB (by (with_reducible repeat (first | apply tA_ | apply tN_ | apply tD_)); exact O5.out) aN (Nat.le_of_eq hg.symm)) hb); have aH := Aside0.mk (Kd.R_below (Qr cl.out) hb); have aJ := Aside0.mk (blk_below (g := ab) (o := .cells #[.int .i64 aj, .int .i64 af, .int .i64 ai, .int .i64 ah, .slice ax ad.length ar, .slice ay ae.length au, .slice aw ag.length av, .int .i64 ak] 31 (0, 0)) (Qb K1.out) hb); have aQ := Aside0.mk (blk_below (g := ac) (o := .cells zT_ 34 (0, 0)) (Qb K2.out) hb); have aR := Aside0.mk (blk_below (g := aa) (o := .cells #[.string al, u227001, .string ap, .string aq, u227004, u227005, .slice none 0 0, .string (⟨#[]⟩ : ByteArray)] 34 (0, 0)) (Qb K3.out) hb); have aY := Aside0.mk (below_step (Qz HB.out az.out aC.out ao.out) hb); have a0 := Aside0.mk (hbox); have a4 := Aside0.mk ((by rw [hg]; exact (below_size (Qz HB.out az.out aC.out ao.out)) : w.heap.size ≤ aN)); have aT := Aside0.mk ((by rw [hg]; exact (below_size (Qz HB.out az.out aC.out ao.out)) : w.heap.size ≤ aN)); have a3 := Aside0.mk ((by rw [hg]; exact Nat.ne_of_lt (blk_lt (g := ab) (o := .cells #[.int .i64 aj, .int .i64 af, .int .i64 ai, .int .i64 ah, .slice ax ad.length ar, .slice ay ae.length au, .slice aw ag.length av, .int .i64 ak] 31 (0, 0)) (Qb K1.out)) : ab ≠ aN)); have bc := Aside0.mk ((by rw [hg]; exact Nat.ne_of_gt (blk_lt (g := ab) (o := .cells #[.int .i64 aj, .int .i64 af, .int .i64 ai, .int .i64 ah, .slice ax ad.length ar, .slice ay ae.length au, .slice aw ag.length av, .int .i64 ak] 31 (0, 0)) (Qb K1.out)) : aN ≠ ab)); have e2 := Aside0.mk ((by rw [hg]; exact Nat.ne_of_lt (blk_lt (g := ac) (o := .cells zT_ 34 (0, 0)) (Qb K2.out)) : ac ≠ aN)); have e3 := Aside0.mk ((by rw [hg]; exact Nat.ne_of_gt (blk_lt (g := ac) (o := .cells zT_ 34 (0, 0)) (Qb K2.out)) : aN ≠ ac)); have e4 := Aside0.mk ((by rw [hg]; exact Nat.ne_of_lt (blk_lt (g := aa) (o := .cells #[.string al, u227001, .string ap, .string aq, u227004, u227005, .slice none 0 0, .string (⟨#[]⟩ : ByteArray)] 34 (0, 0)) (Qb K3.out)) : aa ≠ aN)); have e5 := Aside0.mk ((by rw [hg]; exact Nat.ne_of_gt (blk_lt (g := aa) (o := .cells #[.string al, u227001, .string ap, .string aq, u227004, u227005, .slice none 0 0, .string (⟨#[]⟩ : ByteArray)] 34 (0, 0)) (Qb K3.out)) : aN ≠ aa)); clear O1; clear O4; clear O5; clear cl; clear K1; clear K2; clear K3; clear HB; have O1 := aD; have O4 := aE; have O5 := aG; have cl := aH; have K1 := aJ; have K2 := aQ; have K3 := aR; have HB := aY; have K4 := a0; have GW247 := a4; have bo := aT; have NB212_247 := a3; have NB247_212 := bc; have NB213_247 := e2; have NB247_213 := e3; have NB226_247 := e4; have NB247_226 := e5; clear aD aE aG aH aJ aQ aR aY a0 a4 aT a3 bc e2 e3 e4 e5; clear hb hbox hg; have hnb107 := NB247_212.out; have hnc107 := NB212_247.out; have hnb108 := NB247_213.out; have hnc108 := NB213_247.out; have hnb109 := NB247_226.out; have hnc109 := NB226_247.out; obtain ⟨en, eo, f110_0, f110_1⟩ := cells2 K4.out; have hnb111 := N12.out; have hnc111 := N21.out; have hnb112 := N13.out; have hnc112 := N31.out; obtain ⟨ep, eq, er, es, et, eu, ev, ew, f113_0, f113_1, f113_2, f113_3, f113_4, f113_5, f113_6, f113_7⟩ := cells8 K1.out; have p248 : 0 ≤ (aK : Int) := of_decide_eq_true Qa; have q248 : aK < (ae.length : Int) := of_decide_eq_true Qa; obtain ⟨ad248, e248, hx248_0⟩ := Kd.at_int eV.out aK p248 q248; cases e248; have hn248_0 : ad248.block ≠ aN := Nat.ne_of_lt (Nat.lt_of_lt_of_le (by have := World.block_lt_of_cell? _ _ hx248_0; first | rwa [add_block] at this | exact this) GW247.out); have hn248_1 : ad248.block ≠ aN := Nat.ne_of_lt (Nat.lt_of_lt_of_le (by have := World.block_lt_of_cell? _ _ hx248_0; first | rwa [add_block] at this | exact this) GW247.out); replace hx248_0 := (HB.out.cell (World.block_lt_of_cell? w _ hx248_0)).trans hx248_0; replace hx248_0 := (cell_far (p := ⟨aN, 0, none⟩) (by first | (rw [add_block]; exact hn248_0) | (show (Addr.add _ _).block ≠ _; rw [add_block]; exact hn248_0) | exact hn248_0) (.string (rdOf ByteArray.empty a1 aK))).trans hx248_0; replace hx248_0 := (cell_far (p := ⟨aN, 1, none⟩) (by first | (rw [add_block]; exact hn248_1) | (show (Addr.add _ _).block ≠ _; rw [add_block]; exact hn248_1) | exact hn248_1) (.slice none 0 0)).trans hx248_0; clear hn248_0; clear hn248_1; replace p248 := eq_true p248; replace q248 := eq_true q248))
                  generalize Int.tmod (wrap64 ((Int.tmod (rd ae aK) 1000) + 1000)) 1000 = n10 at *
                  go_loopg [11] kj90 (fun kq v11 w' => ∃ (a5 : Int) (aI : List ByteArray) (u248001 : Value), v11 = .int .i64 a5 ∧ Aside0 (mD.l3 kq aK n10 a5 aj af ai ah ad ae ag ak al x1_ ap aq x4_ x5_ (⟨#[]⟩ : ByteArray) (rdOf ByteArray.empty a1 aK) aI = some (r1, r2, r3, r4, r5, r6, r7, r8)) ∧ Aside0 (kq ≤ kj90) ∧ Aside0 (Kd.R Kd.string 9 w' w.heap.size (fun k_ => some k_ ≠ (u227004 : Value).ownBlock ∧ some k_ ≠ (u248001 : Value).ownBlock) u227001 x1_) ∧ Aside0 (Kd.R Kd.string 9 w' w.heap.size (fun k_ => some k_ ≠ (u227001 : Value).ownBlock ∧ some k_ ≠ (u248001 : Value).ownBlock) u227004 x4_) ∧ Aside0 (Kd.S k62 62 w' w.heap.size (fun k_ => some k_ ≠ (u227001 : Value).ownBlock ∧ some k_ ≠ (u227004 : Value).ownBlock ∧ some k_ ≠ (u248001 : Value).ownBlock ∧ k_ ≠ aN) u227005 x5_) ∧ Aside0 (Kd.R Kd.string 9 w' w.heap.size (fun k_ => some k_ ≠ (u227001 : Value).ownBlock ∧ some k_ ≠ (u227004 : Value).ownBlock) u248001 aI) ∧ Aside0 (w'.heap[ab]? = some (.cells #[.int .i64 aj, .int .i64 af, .int .i64 ai, .int .i64 ah, (.slice ax ad.length ar), (.slice (some ad248) ae.length au), (.slice aw ag.length av), .int .i64 ak] 31 (0, 0))) ∧ Aside0 (w'.heap[ac]? = some (.cells zT_ 34 (0, 0))) ∧ Aside0 (w'.heap[aa]? = some (.cells #[.string al, u227001, .string ap, .string aq, u227004, u227005, (.slice none 0 0), .string (⟨#[]⟩ : ByteArray)] 34 (0, 0))) ∧ Aside0 (w'.heap[aN]? = some (.cells #[.string (rdOf ByteArray.empty a1 aK), u248001] 62 (0, 0))) ∧ Aside0 (Below w.heap.size w w'))
                  case atStart => exact ⟨(0), (([] : List ByteArray)), (.slice none 0 0), Qs, H', ⟨Nat.le_refl _⟩, ⟨by (with_reducible repeat (first | apply rA_ | apply rN_ | apply rD_)); exact Kd.R_mono (Kd.R_far (p := ⟨aN, 1, none⟩) (Kd.R_far (p := ⟨aN, 0, none⟩) (Kd.R_types O1.out K4.out (by decide)) (fun _ hk => hk.2) (.string (rdOf ByteArray.empty a1 aK))) (fun _ hk => hk.2) (.slice none 0 0)) (fun _ hk => ⟨hk.1.1, (by simp [Value.ownBlock])⟩)⟩, ⟨by (with_reducible repeat (first | apply rA_ | apply rN_ | apply rD_)); exact Kd.R_mono (Kd.R_far (p := ⟨aN, 1, none⟩) (Kd.R_far (p := ⟨aN, 0, none⟩) (Kd.R_types O4.out K4.out (by decide)) (fun _ hk => hk.2) (.string (rdOf ByteArray.empty a1 aK))) (fun _ hk => hk.2) (.slice none 0 0)) (fun _ hk => ⟨hk.1.1, (by simp [Value.ownBlock])⟩)⟩, ⟨by (with_reducible repeat (first | apply tA_ | apply tN_ | apply tD_)); exact Kd.S_mono (Kd.S_far (p := ⟨aN, 1, none⟩) (Kd.S_far (p := ⟨aN, 0, none⟩) (Kd.S_mono O5.out (fun k_ hk => (⟨hk, hk.2⟩ : _ ∧ k_ ≠ aN))) (fun _ hk => hk.2) (.string (rdOf ByteArray.empty a1 aK))) (fun _ hk => hk.2) (.slice none 0 0)) (fun _ hk => ⟨hk.1.1.1.1, ⟨hk.1.1.1.2, ⟨(by simp [Value.ownBlock]), hk.1.2⟩⟩⟩)⟩, ⟨by first | exact Kd.R_nil _ _ _ _ _ | exact Kd.N_nil _ _ _ _ _ | exact Kd.V_nil _ _ _ _ _ | exact Kd.Q_nil _ _ _ _ _ | exact Kd.S_nil _ _ _ _ _⟩, ⟨by (with_reducible repeat (first | refine bN_ ?_ _ | refine bD_ ?_ | refine bA_ ?_ _)); refine blk_far ?_ NB212_247.out _; (with_reducible repeat (first | refine bN_ ?_ _ | refine bD_ ?_ | refine bA_ ?_ _)); refine blk_far ?_ NB212_247.out _; (with_reducible repeat (first | refine bN_ ?_ _ | refine bD_ ?_ | refine bA_ ?_ _)); exact K1.out⟩, ⟨by (with_reducible repeat (first | refine bN_ ?_ _ | refine bD_ ?_ | refine bA_ ?_ _)); refine blk_far ?_ NB213_247.out _; (with_reducible repeat (first | refine bN_ ?_ _ | refine bD_ ?_ | refine bA_ ?_ _)); refine blk_far ?_ NB213_247.out _; (with_reducible repeat (first | refine bN_ ?_ _ | refine bD_ ?_ | refine bA_ ?_ _)); exact K2.out⟩, ⟨by (with_reducible repeat (first | refine bN_ ?_ _ | refine bD_ ?_ | refine bA_ ?_ _)); refine blk_far ?_ NB226_247.out _; (with_reducible repeat (first | refine bN_ ?_ _ | refine bD_ ?_ | refine bA_ ?_ _)); refine blk_far ?_ NB226_247.out _; (with_reducible repeat (first | refine bN_ ?_ _ | refine bD_ ?_ | refine bA_ ?_ _)); exact K3.out⟩, ⟨by (with_reducible repeat (first | refine bN_ ?_ _ | refine bD_ ?_ | refine bA_ ?_ _)); refine blk_put (cs := #[.string (rdOf ByteArray.empty a1 aK), .slice none 0 0]) ?_ 1 _ rfl; (with_reducible repeat (first | refine bN_ ?_ _ | refine bD_ ?_ | refine bA_ ?_ _)); refine blk_put (cs := #[.string (⟨#[]⟩ : ByteArray), .slice none 0 0]) ?_ 0 _ rfl; (with_reducible repeat (first | refine bN_ ?_ _ | refine bD_ ?_ | refine bA_ ?_ _)); exact K4.out⟩, ⟨by repeat (first | (with_reducible first | exact HB.out | apply wA_ | apply wN_ | apply wD_ | refine wS_ ?_ az.out | refine wS_ ?_ aC.out | refine wS_ ?_ ao.out | refine wS_ ?_ bo.out) | exact HB.out)⟩⟩
                  case round =>
                   clear H'
                   try clear c1; try clear c2; try clear p2; try clear q2; try clear hx2; try clear c3; try clear c4; try clear c5; try clear c6; try clear p6; try clear c7; try clear c8; try clear c9; try clear c10; try clear c11; try clear p21; try clear q21; try clear hx21; try clear p22; try clear q22; try clear hx22; try clear c28; try clear a6; try clear a8; try clear c29; try clear c30; try clear c32; try clear c34; try clear c35; try clear c38; try clear c39; try clear c42; try clear c43; try clear c49; try clear c52; try clear ba; try clear c53; try clear c54; try clear c56; try clear c57; try clear c59; try clear c61; try clear cy; try clear c62; try clear cz; try clear p64; try clear c67; try clear cA; try clear c68; try clear c69; try clear c70; try clear c73; try clear dy; try clear c74; try clear c75; try clear c78; try clear c79; try clear c80; try clear c83; try clear c84; try clear c85; try clear c92; try clear bW; try clear c93; try clear c94; try clear c96; try clear c97; try clear c99; try clear c100; try clear ek; try clear c101; try clear el; try clear c102; try clear em; try clear c107; try clear c108; try clear c109; try clear c111; try clear c112
                   try clear en eo f110_0 f110_1; try clear ep eq er es et eu ev ew f113_0 f113_1 f113_2 f113_3 f113_4 f113_5 f113_6 f113_7; try clear bp bq br bs bu bv bw bx f31_0 f31_1 f31_2 f31_3 f31_4 f31_5 f31_6 f31_7; try clear bz bA bB bC bD bE bd be f33_0 f33_1 f33_2 f33_3 f33_4 f33_5 f33_6 f33_7; try clear bf bg bh bi bj bk bm bn f36_0 f36_1 f36_2 f36_3 f36_4 f36_5 f36_6 f36_7; try clear bF bG bH bI bJ bK bL bM f44_0 f44_1 f44_2 f44_3 f44_4 f44_5 f44_6 f44_7; try clear bN bO bP bQ bR bS bT bU f50_0 f50_1 f50_2 f50_3 f50_4 f50_5 f50_6 f50_7; try clear bZ b0 b1 b2 b3 b4 b5 b6 f55_0 f55_1 f55_2 f55_3 f55_4 f55_5 f55_6 f55_7; try clear b7 b8 b9 ca cb cc cd ce f58_0 f58_1 f58_2 f58_3 f58_4 f58_5 f58_6 f58_7; try clear cB cC cD cE cF cG cH cI f71_0 f71_1 f71_2 f71_3 f71_4 f71_5 f71_6 f71_7; try clear cJ cK cM cN cO cP cQ cS f76_0 f76_1 f76_2 f76_3 f76_4 f76_5 f76_6 f76_7; try clear cU cV cW cX cY cZ c0 da f81_0 f81_1 f81_2 f81_3 f81_4 f81_5 f81_6 f81_7; try clear db dc dd de df dg dh di f86_0 f86_1 f86_2 f86_3 f86_4 f86_5 f86_6 f86_7; try clear dj dk dl dm dn dp dq dr f90_0 f90_1 f90_2 f90_3 f90_4 f90_5 f90_6 f90_7; try clear dA dB dC dD dE dF dG dH f95_0 f95_1 f95_2 f95_3 f95_4 f95_5 f95_6 f95_7; try clear dI dJ dK dL dM dN dO dP f98_0 f98_1 f98_2 f98_3 f98_4 f98_5 f98_6 f98_7
                   try clear hx237_0; try clear hx239_0; try clear hx246_0; try clear hx248_0; try clear p2; try clear p21; try clear p237; try clear p239; try clear p246; try clear p248; try clear p6; try clear p64; try clear q2; try clear q21; try clear q237; try clear q239; try clear q246; try clear q248
                   obtain ⟨a5, aI, u248001, rfl, HA, HK7, O1, O4, O5, HO_248001, K1, K2, K3, K4, HB⟩ := hrel
                   cases gk with
                   | zero => exact absurd HA.out (by simp [mD.l3])
                   | succ k7 =>
                    have H := HA.out
                    clear HA
                    simp only [mD.l3] at H
                    by_cases c114 : a5 ≤ (Int.tmod n10 4)
                    ·rw [if_pos c114] at H
                     have dQ : decide (a5 ≤ (Int.tmod n10 4)) = true := decide_eq_true c114
                     clear c114
                     replace H := Option.bind_eq_some_iff.mp H
                     obtain ⟨cm, A1173, H⟩ := H
                     replace H : ((r6_Pick.f cm (wrap64 ((wrap64 (Int.tdiv n10 4)) + (wrap64 ((wrap64 (a5 * a5)) * 3))))).bind fun cr => (if aI.length < 8796093022208 then (mD.l3 k7 aK n10 (wrap64 (a5 + 1)) aj af ai ah ad ae ag ak al x1_ ap aq x4_ x5_ (⟨#[]⟩ : ByteArray) (rdOf ByteArray.empty a1 aK) (aI ++ [cr])) else (none))) = some (r1, r2, r3, r4, r5, r6, r7, r8) := H
                     have fb := Aside0.mk A1173
                     clear A1173
                     replace H := Option.bind_eq_some_iff.mp H
                     obtain ⟨cr, A1183, H⟩ := H
                     replace H : (if aI.length < 8796093022208 then (mD.l3 k7 aK n10 (wrap64 (a5 + 1)) aj af ai ah ad ae ag ak al x1_ ap aq x4_ x5_ (⟨#[]⟩ : ByteArray) (rdOf ByteArray.empty a1 aK) (aI ++ [cr])) else (none)) = some (r1, r2, r3, r4, r5, r6, r7, r8) := H
                     have fc := Aside0.mk A1183
                     clear A1183
                     by_cases c117 : aI.length < 8796093022208
                     ·rw [if_pos c117] at H
                      have ex := Aside0.mk c117
                      clear c117
                      obtain ⟨ct, cn⟩ : ∃ y_ : List ByteArray, y_ = (aI ++ [cr]) := ⟨_, rfl⟩
                      replace H : (mD.l3 k7 aK n10 (wrap64 (a5 + 1)) aj af ai ah ad ae ag ak al x1_ ap aq x4_ x5_ (⟨#[]⟩ : ByteArray) (rdOf ByteArray.empty a1 aK) ct) = some (r1, r2, r3, r4, r5, r6, r7, r8) := by first | (rw [cn]; with_reducible exact H) | (have H2_ := (Option.bind_some _ _).symm.trans H; rw [cn]; with_reducible exact H2_) | (have H2_ := (Option.bind_some _ _).symm.trans H; with_reducible exact H2_) | with_reducible exact H | (rw [cn]; exact H) | exact H
                      have e6 := Aside0.mk cn
                      clear cn
                      have H' := Aside0.mk H
                      clear H
                      try go_wp2
                      have aD := Aside0.mk (rD_ O1.out)
                      have aE := Aside0.mk (rD_ O4.out)
                      have aG := Aside0.mk (tD_ O5.out)
                      have aH := Aside0.mk (rD_ HO_248001.out)
                      have aJ := Aside0.mk (bD_ K1.out)
                      have aQ := Aside0.mk (bD_ K2.out)
                      have aR := Aside0.mk (bD_ K3.out)
                      have aY := Aside0.mk (bD_ K4.out)
                      have a0 := Aside0.mk (wD_ HB.out)
                      clear O1 O4 O5 HO_248001 K1 K2 K3 K4 HB
                      have O1 := aD; have O4 := aE; have O5 := aG; have HO_248001 := aH; have K1 := aJ; have K2 := aQ; have K3 := aR; have K4 := aY; have HB := a0
                      clear aD aE aG aH aJ aQ aR aY a0
                      refine start_ (n := 15) (S := fun w' => w'.cell? ⟨aN, 0, none⟩ = some (.string (rdOf ByteArray.empty a1 aK)) ∧ w'.cell? ⟨aN, 1, none⟩ = some (u248001)) (ds := [14]) #[false, false, false, false, false, false, false, false, false, false, false, false, false, false, false] (by kernel_rfl) rfl rfl ⟨(bC_ K4.out 0).trans rfl, (bC_ K4.out 1).trans rfl⟩ (fun hHeld => ?_); refine with_tabW mD.tab23 mD.bits23 (fun HT_ HW_ => ?_)
                      generalize wr.drew = w118 at O1 O4 O5 HO_248001 K1 K2 K3 K4 HB hHeld ⊢
                      refine pu_ (i := 0) (N := some 116) HT_ (bl_ 15 1) ?_
                      refine pu_ (i := 3) (N := some 119) HT_ (bl_ 15 9) ?_
                      refine pu_ (i := 4) (N := some 120) HT_ (bl_ 15 25) ?_
                      refine pu_ (i := 5) (N := some 121) HT_ (bl_ 15 57) ?_
                      refine pu_ (i := 6) (N := some 122) HT_ (bl_ 15 121) ?_
                      refine pu_ (i := 7) (N := some 123) HT_ (bl_ 15 249) ?_
                      refine pu_ (i := 8) (N := some 124) HT_ (bl_ 15 505) ?_
                      refine pu_ (i := 9) (N := some 125) HT_ (bl_ 15 1017) ?_
                      refine tk_ (i := 1) (N := some 117) HT_ HW_ (bl_ 15 1019) hHeld ?_ (hy := by rintro w' ⟨s0, s1⟩; go_simp; with_reducible rfl)
                      refine on_ (i := 2) (N := some 118) HT_ (bl_ 15 1023) rfl rfl (fun K hK => ?_)
                      refine goes_ Try.func40 (by kernel_rfl) rfl #[] (by rfl) rfl rfl Qm ?_
                      with_reducible refine (r6_words.calls  cm _ fb.out).mono ?_
                      rintro e w119 ⟨v250, rfl, ho0, hb⟩
                      refine ⟨_, rfl, ?_⟩
                      have aD := Aside0.mk (Kd.R_elder' (Qr O1.out) (Kd.R_base ho0) hb)
                      have aE := Aside0.mk (Kd.R_elder' (Qr O4.out) (Kd.R_base ho0) hb)
                      have aG := Aside0.mk (Kd.S_elder' (by (with_reducible repeat (first | apply tA_ | apply tN_ | apply tD_)); exact O5.out) (Kd.R_base ho0) hb)
                      have aH := Aside0.mk (Kd.R_elder' (Qr HO_248001.out) (Kd.R_base ho0) hb)
                      have aJ := Aside0.mk (Kd.R_lower (Kd.R_new' (Kd.R_new' (Kd.R_new' ho0 (Kd.R_lt (Qr O1.out))) (Kd.R_lt (Qr O4.out))) (Kd.R_lt (Qr HO_248001.out))) (below_size (by repeat (first | (with_reducible first | exact HB.out | apply wA_ | apply wN_ | apply wD_ | refine wS_ ?_ az.out | refine wS_ ?_ aC.out | refine wS_ ?_ ao.out | refine wS_ ?_ bo.out) | exact HB.out))))
                      have aQ := Aside0.mk (blk_below (g := ab) (o := .cells #[.int .i64 aj, .int .i64 af, .int .i64 ai, .int .i64 ah, .slice ax ad.length ar, .slice (some ad248) ae.length au, .slice aw ag.length av, .int .i64 ak] 31 (0, 0)) (Qb K1.out) hb)
                      have aR := Aside0.mk (blk_below (g := ac) (o := .cells zT_ 34 (0, 0)) (Qb K2.out) hb)
                      have aY := Aside0.mk (blk_below (g := aa) (o := .cells #[.string al, u227001, .string ap, .string aq, u227004, u227005, .slice none 0 0, .string (⟨#[]⟩ : ByteArray)] 34 (0, 0)) (Qb K3.out) hb)
                      have a0 := Aside0.mk (blk_below (g := aN) (o := .cells #[.string (rdOf ByteArray.empty a1 aK), u248001] 62 (0, 0)) (Qb K4.out) hb)
                      have a4 := Aside0.mk (below_step (by repeat (first | (with_reducible first | exact HB.out | apply wA_ | apply wN_ | apply wD_ | refine wS_ ?_ az.out | refine wS_ ?_ aC.out | refine wS_ ?_ ao.out | refine wS_ ?_ bo.out) | exact HB.out)) hb)
                      clear O1 O4 O5 HO_248001 K1 K2 K3 K4 HB
                      have O1 := aD; have O4 := aE; have O5 := aG; have HO_248001 := aH; have bX := aJ; have K1 := aQ; have K2 := aR; have K3 := aY; have K4 := a0; have HB := a4
                      clear aD aE aG aH aJ aQ aR aY a0 a4
                      (try clear hb); (try clear hb2); (try clear hk); (try clear hi); (try clear ho0)
                      obtain ⟨Ao120, co120, eo120⟩ := Kd.R_slice bX.out
                      (first | subst eo120 | (injection eo120 with f1_ f2_ f3_; have f4_ := f1_.symm; have f5_ := f3_.symm; clear f1_ f2_ f3_; subst f4_; subst f5_))
                      refine hK.out _ _ ⟨(bC_ K4.out 0).trans rfl, (bC_ K4.out 1).trans rfl⟩ (fun hHeld => ?_)
                      clear hK K
                      refine nm_ (some 118) ?_
                      refine on_ (i := 10) (N := some 126) HT_ (bl_ 15 2047) rfl rfl (fun K hK => ?_)
                      refine goes_ Try.func35 (by kernel_rfl) rfl #[.slice Ao120 cm.length co120, .int .i64 (wrap64 ((wrap64 (Int.tdiv n10 4)) + (wrap64 ((wrap64 (a5 * a5)) * 3))))] (by rfl) rfl rfl Qm ?_
                      with_reducible refine (r6_Pick.calls _ _ cm (wrap64 ((wrap64 (Int.tdiv n10 4)) + (wrap64 ((wrap64 (a5 * a5)) * 3)))) cr _ ?side1 ?side2 fc.out).mono ?_
                      (case side1 => repeat (first | exact (Kd.R_reads' bX.out).2.2 | (with_reducible refine Kd.C_alloc ?_ _) | (with_reducible refine Kd.C_drewN ?_ _) | (with_reducible refine Kd.C_drew ?_)))
                      (case side2 => exact (Kd.R_reads' bX.out).2.1)
                      rintro e w' ⟨rfl, ⟨nd, rfl⟩⟩
                      refine ⟨_, rfl, ?_⟩
                      refine hK.out _ _ ⟨(bC_ K4.out 0).trans rfl, (bC_ K4.out 1).trans rfl⟩ (fun hHeld => ?_)
                      clear hK K
                      refine nm_ (some 126) ?_
                      refine on_ (i := 11) (N := some 127) HT_ (bl_ 15 4095) rfl rfl (fun K hK => ?_)
                      refine value_ (w1 := ?_) (v := ?_) (by rfl) rfl ?_ ?_
                      rotate_left 2
                      ·go_simp
                       constructor
                       ·rfl
                       ·rfl
                      refine hK.out _ _ ⟨(bC_ (bA_ K4.out _) 0).trans rfl, (bC_ (bA_ K4.out _) 1).trans rfl⟩ (fun hHeld => ?_)
                      clear hK K
                      refine nm_ (some 127) ?_
                      refine on_ (i := 12) (N := some 128) HT_ (bl_ 15 8191) rfl rfl (fun K hK => ?_)
                      refine Kd.R_append_step Kd.string (w0 := w) w.heap.size (by rfl) (.tmp 117) (.tmp 127) 25 9 (.string ⟨#[]⟩) 16 rfl Try.underlying25 info9 rfl (by decide) (by omega) u248001 aI cr [.string cr] (fun k_ => some k_ ≠ (u227001 : Value).ownBlock ∧ some k_ ≠ (u227004 : Value).ownBlock ∧ some k_ ≠ (.slice Ao120 cm.length co120 : Value).ownBlock) (fun _ => False) rfl rfl ?aP (fun _ hk => hk.elim) ?aF ?aO ?aB ?aS ?aL ?_
                      (case aP => exact rfl)
                      (case aB => exact (by repeat (first | (with_reducible first | exact HB.out | apply wA_ | apply wN_ | apply wD_ | refine wS_ ?_ az.out | refine wS_ ?_ aC.out | refine wS_ ?_ ao.out | refine wS_ ?_ bo.out) | exact HB.out)))
                      (case aF => exact (fun k_ hk => ⟨Kd.fresh' (Kd.R_lt (Qr O1.out)) k_ hk, Kd.fresh' (Kd.R_lt (Qr O4.out)) k_ hk, Kd.fresh' (Kd.R_lt (Qr bX.out)) k_ hk⟩))
                      (case aO => exact (by (with_reducible repeat (first | apply rA_ | apply rN_ | apply rD_)); exact Kd.R_mono HO_248001.out (fun _ hk => ⟨hk.1.1, ⟨hk.1.2, hk.2⟩⟩)))
                      (case aS => exact (below_size (by repeat (first | (with_reducible first | exact HB.out | apply wA_ | apply wN_ | apply wD_ | refine wS_ ?_ az.out | refine wS_ ?_ aC.out | refine wS_ ?_ ao.out | refine wS_ ?_ bo.out) | exact HB.out))))
                      (case aL => have := ex.out; omega)
                      intro v254 w121 ho hb hg hat
                      rw [← e6.out] at ho
                      have aD := Aside0.mk (Kd.R_after (ok := (fun k_ => some k_ ≠ (u227004 : Value).ownBlock ∧ some k_ ≠ (.slice Ao120 cm.length co120 : Value).ownBlock)) (by (with_reducible repeat (first | apply rA_ | apply rN_ | apply rD_)); exact Kd.R_mono O1.out (fun _ hk => ⟨⟨hk.1.1, hk.2⟩, hk.1.2⟩)) hg hat)
                      have aE := Aside0.mk (Kd.R_after (ok := (fun k_ => some k_ ≠ (u227001 : Value).ownBlock ∧ some k_ ≠ (.slice Ao120 cm.length co120 : Value).ownBlock)) (by (with_reducible repeat (first | apply rA_ | apply rN_ | apply rD_)); exact Kd.R_mono O4.out (fun _ hk => ⟨⟨hk.1.1, hk.2⟩, hk.1.2⟩)) hg hat)
                      have aG := Aside0.mk (Kd.S_after (ok := (fun k_ => some k_ ≠ (u227001 : Value).ownBlock ∧ some k_ ≠ (u227004 : Value).ownBlock ∧ some k_ ≠ (.slice Ao120 cm.length co120 : Value).ownBlock ∧ k_ ≠ aN)) (by (with_reducible repeat (first | apply tA_ | apply tN_ | apply tD_)); exact Kd.S_mono O5.out (fun _ hk => ⟨⟨hk.1.1, ⟨hk.1.2.1, ⟨hk.2, hk.1.2.2.2⟩⟩⟩, hk.1.2.2.1⟩)) hg hat)
                      have aH := Aside0.mk (blk_grown (g := ab) (o := .cells #[.int .i64 aj, .int .i64 af, .int .i64 ai, .int .i64 ah, .slice ax ad.length ar, .slice (some ad248) ae.length au, .slice aw ag.length av, .int .i64 ak] 31 (0, 0)) (Qb K1.out) hg (Kd.R_ne HO_248001.out K1.out (by decide)))
                      have aJ := Aside0.mk (blk_grown (g := ac) (o := .cells zT_ 34 (0, 0)) (Qb K2.out) hg (Kd.R_ne HO_248001.out K2.out (by decide)))
                      have aQ := Aside0.mk (blk_grown (g := aa) (o := .cells #[.string al, u227001, .string ap, .string aq, u227004, u227005, .slice none 0 0, .string (⟨#[]⟩ : ByteArray)] 34 (0, 0)) (Qb K3.out) hg (Kd.R_ne HO_248001.out K3.out (by decide)))
                      have aR := Aside0.mk (blk_grown (g := aN) (o := .cells #[.string (rdOf ByteArray.empty a1 aK), u248001] 62 (0, 0)) (Qb K4.out) hg (Kd.R_ne HO_248001.out K4.out (by decide)))
                      have aY := Aside0.mk (Kd.R_after (ok := (fun k_ => some k_ ≠ (u227001 : Value).ownBlock ∧ some k_ ≠ (u227004 : Value).ownBlock)) (by (with_reducible repeat (first | apply rA_ | apply rN_ | apply rD_)); exact Kd.R_mono bX.out (fun _ hk => ⟨⟨hk.1.1.2, hk.1.2⟩, hk.2⟩)) hg hat)
                      have a0 := Aside0.mk (hb)
                      have a4 := Aside0.mk (ho)
                      clear O1 O4 O5 K1 K2 K3 K4 bX HB HO_248001
                      have O1 := aD; have O4 := aE; have O5 := aG; have K1 := aH; have K2 := aJ; have K3 := aQ; have K4 := aR; have bX := aY; have HB := a0; have ed := a4
                      clear aD aE aG aH aJ aQ aR aY a0 a4 ho hb hg hat
                      obtain ⟨Ao122, co122, eo122⟩ := Kd.R_slice ed.out
                      (first | subst eo122 | (injection eo122 with f1_ f2_ f3_; have f4_ := f1_.symm; have f5_ := f3_.symm; clear f1_ f2_ f3_; subst f4_; subst f5_))
                      refine hK.out _ _ ⟨(bC_ K4.out 0).trans rfl, (bC_ K4.out 1).trans rfl⟩ (fun hHeld => ?_)
                      clear hK K
                      refine nm_ (some 128) ?_
                      refine pu_ (i := 13) (N := some 129) HT_ (bl_ 15 16383) ?_
                      refine last_ (i := 14) (N := none) #[true, true, true, true, true, true, true, true, true, true, true, true, true, true, true] rfl rfl (one_of HT_.out (by kernel_rfl)) (by decide) (fun K hK => ?_)
                      have hs123 : w121.cell? ⟨aN, 1, none⟩ = some (u248001) := (bC_ K4.out 1).trans rfl
                      have hfs123 := bF_ K4.out 1
                      have hns123_0 := NB212_247.out
                      have hns123_1 := NB213_247.out
                      have hns123_2 := NB226_247.out
                      have hms123_0 := NB247_212.out
                      have hms123_1 := NB247_213.out
                      have hms123_2 := NB247_226.out
                      refine skip_ (w1 := ?_) (by rfl) rfl ?_ ?_
                      rotate_left
                      ·go_simp
                       rfl
                      refine hK.out _ _ ?_
                      clear hK K
                      refine done_ (done_of HT_.out (by kernel_rfl)) ?_
                      try go_wp2
                      go_roundg k7
                      case measure => have := HJ7.out; have := HJ36.out; have := HK3.out; have := HJ50.out; have := HK5.out; have := HJ90.out; have := HK7.out; omega
                      case rel => exact ⟨(wrap64 (a5 + 1)), (ct), (.slice Ao122 ct.length co122), Qs, H', ⟨by have := HJ7.out; have := HJ36.out; have := HK3.out; have := HJ50.out; have := HK5.out; have := HJ90.out; have := HK7.out; omega⟩, ⟨by (with_reducible repeat (first | apply rA_ | apply rN_ | apply rD_)); exact Kd.R_mono (Kd.R_far (p := ⟨aN, 1, none⟩) (Kd.R_types O1.out K4.out (by decide)) (fun _ hk => hk.2) (.slice Ao122 ct.length co122)) (fun _ hk => ⟨hk.1.1.1, hk.1.2⟩)⟩, ⟨by (with_reducible repeat (first | apply rA_ | apply rN_ | apply rD_)); exact Kd.R_mono (Kd.R_far (p := ⟨aN, 1, none⟩) (Kd.R_types O4.out K4.out (by decide)) (fun _ hk => hk.2) (.slice Ao122 ct.length co122)) (fun _ hk => ⟨hk.1.1.1, hk.1.2⟩)⟩, ⟨by (with_reducible repeat (first | apply tA_ | apply tN_ | apply tD_)); exact Kd.S_mono (Kd.S_far (p := ⟨aN, 1, none⟩) (Kd.S_mono O5.out (fun k_ hk => (⟨hk, hk.1.2.2.2⟩ : _ ∧ k_ ≠ aN))) (fun _ hk => hk.2) (.slice Ao122 ct.length co122)) (fun _ hk => ⟨hk.1.1.1, ⟨hk.1.1.2.1, ⟨hk.1.2, hk.1.1.2.2.2⟩⟩⟩)⟩, ⟨by (with_reducible repeat (first | apply rA_ | apply rN_ | apply rD_)); exact Kd.R_mono (Kd.R_far (p := ⟨aN, 1, none⟩) (Kd.R_types ed.out K4.out (by decide)) (fun _ hk => hk.2) (.slice Ao122 ct.length co122)) (fun _ hk => ⟨hk.1.1, hk.1.2.1⟩)⟩, ⟨by (with_reducible repeat (first | refine bN_ ?_ _ | refine bD_ ?_ | refine bA_ ?_ _)); refine blk_far ?_ NB212_247.out _; (with_reducible repeat (first | refine bN_ ?_ _ | refine bD_ ?_ | refine bA_ ?_ _)); exact K1.out⟩, ⟨by (with_reducible repeat (first | refine bN_ ?_ _ | refine bD_ ?_ | refine bA_ ?_ _)); refine blk_far ?_ NB213_247.out _; (with_reducible repeat (first | refine bN_ ?_ _ | refine bD_ ?_ | refine bA_ ?_ _)); exact K2.out⟩, ⟨by (with_reducible repeat (first | refine bN_ ?_ _ | refine bD_ ?_ | refine bA_ ?_ _)); refine blk_far ?_ NB226_247.out _; (with_reducible repeat (first | refine bN_ ?_ _ | refine bD_ ?_ | refine bA_ ?_ _)); exact K3.out⟩, ⟨by (with_reducible repeat (first | refine bN_ ?_ _ | refine bD_ ?_ | refine bA_ ?_ _)); refine blk_put (cs := #[.string (rdOf ByteArray.empty a1 aK), u248001]) ?_ 1 _ rfl; (with_reducible repeat (first | refine bN_ ?_ _ | refine bD_ ?_ | refine bA_ ?_ _)); exact K4.out⟩, ⟨by repeat (first | (with_reducible first | exact HB.out | apply wA_ | apply wN_ | apply wD_ | refine wS_ ?_ az.out | refine wS_ ?_ aC.out | refine wS_ ?_ ao.out | refine wS_ ?_ bo.out) | exact HB.out)⟩⟩
                     ·rw [if_neg c117] at H
                      exact absurd H (by simp)
                    ·rw [if_neg c114] at H
                     have dQ : decide (a5 ≤ (Int.tmod n10 4)) = false := decide_eq_false c114
                     clear c114
                     by_cases c124 : x5_.length < 3518437208883
                     ·rw [if_pos c124] at H
                      have ey := Aside0.mk c124
                      clear c124
                      obtain ⟨du, co⟩ : ∃ y_ : List (S62), y_ = (x5_ ++ [(⟨(rdOf ByteArray.empty a1 aK), aI⟩ : S62)]) := ⟨_, rfl⟩
                      replace H : (mD.l2 k7 (wrap64 (aK + 1)) aj af ai ah ad ae ag ak al x1_ ap aq x4_ du (⟨#[]⟩ : ByteArray)) = some (r1, r2, r3, r4, r5, r6, r7, r8) := by first | (rw [co]; with_reducible exact H) | (have H2_ := (Option.bind_some _ _).symm.trans H; rw [co]; with_reducible exact H2_) | (have H2_ := (Option.bind_some _ _).symm.trans H; with_reducible exact H2_) | with_reducible exact H | (rw [co]; exact H) | exact H
                      have e7 := Aside0.mk co
                      clear co
                      have H' := Aside0.mk H
                      clear H
                      have hnb125 := N31.out
                      have hnc125 := N13.out
                      have hnb126 := N32.out
                      have hnc126 := N23.out
                      have hnb127 := NB226_247.out
                      have hnc127 := NB247_226.out
                      obtain ⟨ez, eA, eB, eC, eD, eE, eF, eG, f128_0, f128_1, f128_2, f128_3, f128_4, f128_5, f128_6, f128_7⟩ := cells8 K3.out
                      have hnb129 := NB247_212.out
                      have hnc129 := NB212_247.out
                      have hnb130 := NB247_213.out
                      have hnc130 := NB213_247.out
                      obtain ⟨eH, eI, f131_0, f131_1⟩ := cells2 K4.out
                      obtain ⟨Ao133, co133, eo133⟩ := Kd.R_slice HO_248001.out
                      subst eo133
                      go_wp2_with (first | ((with_reducible refine gate_builtin (b := .append) (xs := #[.tmp 131, .tmp 133]) rfl ?_); at_builtin; refine Kd.S_append k62 (w0 := w) w.heap.size rfl (.tmp 131) (.tmp 133) 32 62 (.agg #[(.string ⟨#[]⟩), (.slice none 0 0)]) 40 rfl Try.underlying32 info62 rfl (by decide) (by omega) u227005 x5_ (⟨(rdOf ByteArray.empty a1 aK), aI⟩ : S62) [.string (rdOf ByteArray.empty a1 aK), .slice Ao133 aI.length co133] (fun k_ => some k_ ≠ (u227001 : Value).ownBlock ∧ some k_ ≠ (u227004 : Value).ownBlock ∧ k_ ≠ aN) (fun k_ => some k_ = (.slice Ao133 aI.length co133 : Value).ownBlock) rfl rfl ?aP (fun k_ hk_ => ((Kd.R_mono (ok' := fun k_ => ((fun k_ => some k_ ≠ (u227001 : Value).ownBlock ∧ some k_ ≠ (u227004 : Value).ownBlock ∧ k_ ≠ aN)) k_ ∧ some k_ ≠ (u227005 : Value).ownBlock) (Kd.R_types (Kd.R_apart' (HO_248001.out) (Kd.S_typed O5.out) (by decide)) K4.out (by decide)) (fun k_ hk => ⟨⟨hk.1.1.1, ⟨hk.1.1.2, hk.2⟩⟩, hk.1.2⟩))).1 k_ hk_.symm) ?aF ?aO ?aB ?aS ?aL ?_; (case aP => exact k62_mkM _ _ _ (⟨(rdOf ByteArray.empty a1 aK), aI⟩ : S62) (Kd.R_mono (Kd.R_tight rfl (Kd.R_mono (ok' := fun k_ => ((fun k_ => some k_ ≠ (u227001 : Value).ownBlock ∧ some k_ ≠ (u227004 : Value).ownBlock ∧ k_ ≠ aN)) k_ ∧ some k_ ≠ (u227005 : Value).ownBlock) (Kd.R_types (Kd.R_apart' (HO_248001.out) (Kd.S_typed O5.out) (by decide)) K4.out (by decide)) (fun k_ hk => ⟨⟨hk.1.1.1, ⟨hk.1.1.2, hk.2⟩⟩, hk.1.2⟩))) (fun _ h_ => h_))); (case aB => exact (by repeat (first | (with_reducible first | exact HB.out | apply wA_ | apply wN_ | apply wD_ | refine wS_ ?_ az.out | refine wS_ ?_ aC.out | refine wS_ ?_ ao.out | refine wS_ ?_ bo.out) | exact HB.out))); (case aF => exact (fun k_ hk => ⟨Kd.fresh' (Kd.R_lt (Qr O1.out)) k_ hk, Kd.fresh' (Kd.R_lt (Qr O4.out)) k_ hk, Kd.freshB (g := aN) (o := .cells #[.string (rdOf ByteArray.empty a1 aK), .slice Ao133 aI.length co133] 62 (0, 0)) (Qb K4.out) k_ hk⟩)); (case aO => exact (by (with_reducible repeat (first | apply tA_ | apply tN_ | apply tD_)); exact Kd.S_mono O5.out (fun k_ hk => ⟨⟨hk.1, ⟨hk.2.1, hk.2.2.2⟩⟩, fun e_ => hk.2.2.1 e_⟩))); (case aS => exact (below_size (by repeat (first | (with_reducible first | exact HB.out | apply wA_ | apply wN_ | apply wD_ | refine wS_ ?_ az.out | refine wS_ ?_ aC.out | refine wS_ ?_ ao.out | refine wS_ ?_ bo.out) | exact HB.out)))); (case aL => have := ey.out; omega); intro v257 w132 ho hb hg hat; rw [← e7.out] at ho; have aD := Aside0.mk (Kd.R_over' (Qr O1.out) (Kd.S_typed (by (with_reducible repeat (first | apply tA_ | apply tN_ | apply tD_)); exact O5.out)) (by decide) hg); have aE := Aside0.mk (Kd.R_over' (Qr O4.out) (Kd.S_typed (by (with_reducible repeat (first | apply tA_ | apply tN_ | apply tD_)); exact O5.out)) (by decide) hg); have aG := Aside0.mk (blk_grown (g := ab) (o := .cells #[.int .i64 aj, .int .i64 af, .int .i64 ai, .int .i64 ah, .slice ax ad.length ar, .slice (some ad248) ae.length au, .slice aw ag.length av, .int .i64 ak] 31 (0, 0)) (Qb K1.out) hg (Kd.S_ne O5.out K1.out (by decide))); have aH := Aside0.mk (blk_grown (g := ac) (o := .cells zT_ 34 (0, 0)) (Qb K2.out) hg (Kd.S_ne O5.out K2.out (by decide))); have aJ := Aside0.mk (blk_grown (g := aa) (o := .cells #[.string al, u227001, .string ap, .string aq, u227004, u227005, .slice none 0 0, .string (⟨#[]⟩ : ByteArray)] 34 (0, 0)) (Qb K3.out) hg (Kd.S_ne O5.out K3.out (by decide))); have aQ := Aside0.mk (blk_grown (g := aN) (o := .cells #[.string (rdOf ByteArray.empty a1 aK), .slice Ao133 aI.length co133] 62 (0, 0)) (Qb K4.out) hg (Kd.S_away O5.out (fun _ hk => hk.2.2.2))); have aR := Aside0.mk (hb); have aY := Aside0.mk (ho); clear O1; clear O4; clear K1; clear K2; clear K3; clear K4; clear HB; clear O5; clear HO_248001; have O1 := aD; have O4 := aE; have K1 := aG; have K2 := aH; have K3 := aJ; have K4 := aQ; have HB := aR; have ee := aY; clear aD aE aG aH aJ aQ aR aY; clear ho hb hg hat; obtain ⟨Ao134, co134, eo134⟩ := Kd.S_slice ee.out; subst eo134; obtain ⟨eJ, eK, eL, eM, eN, eO, eP, eQ, f135_0, f135_1, f135_2, f135_3, f135_4, f135_5, f135_6, f135_7⟩ := cells8 K3.out))
                      go_roundg k7
                      case measure => have := HJ7.out; have := HJ36.out; have := HK3.out; have := HJ50.out; have := HK5.out; have := HJ90.out; have := HK7.out; omega
                      case rel => exact ⟨(wrap64 (aK + 1)), (du), (.slice Ao134 du.length co134), Qs, H', ⟨by have := HJ7.out; have := HJ36.out; have := HK3.out; have := HJ50.out; have := HK5.out; have := HJ90.out; have := HK7.out; omega⟩, ⟨by (with_reducible repeat (first | apply rA_ | apply rN_ | apply rD_)); exact Kd.R_mono (Kd.R_far (p := ⟨aa, 5, none⟩) (Kd.R_types O1.out K3.out (by decide)) (fun _ hk => hk.2) (.slice Ao134 du.length co134)) (fun _ hk => hk.1.1)⟩, ⟨by (with_reducible repeat (first | apply rA_ | apply rN_ | apply rD_)); exact Kd.R_mono (Kd.R_far (p := ⟨aa, 5, none⟩) (Kd.R_types O4.out K3.out (by decide)) (fun _ hk => hk.2) (.slice Ao134 du.length co134)) (fun _ hk => hk.1.1)⟩, ⟨by (with_reducible repeat (first | apply tA_ | apply tN_ | apply tD_)); exact Kd.S_mono (Kd.S_far (p := ⟨aa, 5, none⟩) (Kd.S_types ee.out K3.out (by decide)) (fun _ hk => hk.2) (.slice Ao134 du.length co134)) (fun _ hk => ⟨hk.1.1, hk.1.2.1⟩)⟩, ⟨by (with_reducible repeat (first | refine bN_ ?_ _ | refine bD_ ?_ | refine bA_ ?_ _)); refine blk_far ?_ N13.out _; (with_reducible repeat (first | refine bN_ ?_ _ | refine bD_ ?_ | refine bA_ ?_ _)); exact K1.out⟩, ⟨by (with_reducible repeat (first | refine bN_ ?_ _ | refine bD_ ?_ | refine bA_ ?_ _)); refine blk_far ?_ N23.out _; (with_reducible repeat (first | refine bN_ ?_ _ | refine bD_ ?_ | refine bA_ ?_ _)); exact K2.out⟩, ⟨by (with_reducible repeat (first | refine bN_ ?_ _ | refine bD_ ?_ | refine bA_ ?_ _)); refine blk_put (cs := #[.string al, u227001, .string ap, .string aq, u227004, u227005, .slice none 0 0, .string (⟨#[]⟩ : ByteArray)]) ?_ 5 _ rfl; (with_reducible repeat (first | refine bN_ ?_ _ | refine bD_ ?_ | refine bA_ ?_ _)); exact K3.out⟩, ⟨by repeat (first | (with_reducible first | exact HB.out | apply wA_ | apply wN_ | apply wD_ | refine wS_ ?_ az.out | refine wS_ ?_ aC.out | refine wS_ ?_ ao.out | refine wS_ ?_ bo.out) | exact HB.out)⟩⟩
                     ·rw [if_neg c124] at H
                      exact absurd H (by simp)
                 ·rw [if_neg c102] at H
                  exact absurd H (by simp)
                ·rw [if_neg c101] at H
                 exact absurd H (by simp)
               ·rw [if_neg c100] at H
                exact absurd H (by simp)
              ·replace c99 := Bool.eq_false_iff.mpr c99
               subst c99
               have H1 : (mD.l4 kj90 0 aj af ai ah ad ae ag ak al x1_ ap aq x4_ x5_ ([] : List ByteArray) (⟨#[]⟩ : ByteArray)) = some (r1, r2, r3, r4, r5, r6, r7, r8) := by rw [if_neg (show ¬ (false = true) by decide)] at H; exact H
               clear H
               have H := H1
               clear H1
               have H' := Aside0.mk H
               clear H
               go_wp2
               go_loopg [12] kj90 (fun kq v12 w' => ∃ (aU : Int) (aM : List ByteArray) (u227006 : Value), v12 = .int .i64 aU ∧ Aside0 (mD.l4 kq aU aj af ai ah ad ae ag ak al x1_ ap aq x4_ x5_ aM (⟨#[]⟩ : ByteArray) = some (r1, r2, r3, r4, r5, r6, r7, r8)) ∧ Aside0 (kq ≤ kj90) ∧ Aside0 (Kd.R Kd.string 9 w' w.heap.size (fun k_ => some k_ ≠ (u227004 : Value).ownBlock ∧ some k_ ≠ (u227006 : Value).ownBlock) u227001 x1_) ∧ Aside0 (Kd.R Kd.string 9 w' w.heap.size (fun k_ => some k_ ≠ (u227001 : Value).ownBlock ∧ some k_ ≠ (u227006 : Value).ownBlock) u227004 x4_) ∧ Aside0 (Kd.S k62 62 w' w.heap.size (fun k_ => some k_ ≠ (u227001 : Value).ownBlock ∧ some k_ ≠ (u227004 : Value).ownBlock ∧ some k_ ≠ (u227006 : Value).ownBlock) u227005 x5_) ∧ Aside0 (Kd.R Kd.string 9 w' w.heap.size (fun k_ => some k_ ≠ (u227001 : Value).ownBlock ∧ some k_ ≠ (u227004 : Value).ownBlock) u227006 aM) ∧ Aside0 (w'.heap[ab]? = some (.cells #[.int .i64 aj, .int .i64 af, .int .i64 ai, .int .i64 ah, (.slice ax ad.length ar), (.slice ay ae.length au), (.slice aw ag.length av), .int .i64 ak] 31 (0, 0))) ∧ Aside0 (w'.heap[ac]? = some (.cells zT_ 34 (0, 0))) ∧ Aside0 (w'.heap[aa]? = some (.cells #[.string al, u227001, .string ap, .string aq, u227004, u227005, u227006, .string (⟨#[]⟩ : ByteArray)] 34 (0, 0))) ∧ Aside0 (Below w.heap.size w w'))
               case atStart => exact ⟨(0), (([] : List ByteArray)), (.slice none 0 0), Qs, H', ⟨Nat.le_refl _⟩, ⟨by (with_reducible repeat (first | apply rA_ | apply rN_ | apply rD_)); exact Kd.R_mono O1.out (fun _ hk => ⟨hk, (by simp [Value.ownBlock])⟩)⟩, ⟨by (with_reducible repeat (first | apply rA_ | apply rN_ | apply rD_)); exact Kd.R_mono O4.out (fun _ hk => ⟨hk, (by simp [Value.ownBlock])⟩)⟩, ⟨by (with_reducible repeat (first | apply tA_ | apply tN_ | apply tD_)); exact Kd.S_mono O5.out (fun _ hk => ⟨hk.1, ⟨hk.2, (by simp [Value.ownBlock])⟩⟩)⟩, ⟨by first | exact Kd.R_nil _ _ _ _ _ | exact Kd.N_nil _ _ _ _ _ | exact Kd.V_nil _ _ _ _ _ | exact Kd.Q_nil _ _ _ _ _ | exact Kd.S_nil _ _ _ _ _⟩, ⟨Qb K1.out⟩, ⟨Qb K2.out⟩, ⟨Qb K3.out⟩, ⟨Qz HB.out az.out aC.out ao.out⟩⟩
               case round =>
                clear H'
                try clear c1; try clear p2; try clear q2; try clear hx2; try clear c3; try clear c4; try clear p6; try clear c9; try clear c10; try clear c11; try clear c12; try clear c13; try clear p21; try clear q21; try clear hx21; try clear p22; try clear q22; try clear hx22; try clear c35; try clear c40; try clear p64; try clear c99; try clear c100; try clear c101; try clear c102; try clear c114; try clear dQ; try clear c117; try clear c124; try clear c125; try clear c126; try clear c127; try clear c129; try clear c130
                try clear ez eA eB eC eD eE eF eG f128_0 f128_1 f128_2 f128_3 f128_4 f128_5 f128_6 f128_7; try clear eH eI f131_0 f131_1; try clear eJ eK eL eM eN eO eP eQ f135_0 f135_1 f135_2 f135_3 f135_4 f135_5 f135_6 f135_7; try clear bd be f33_0 f33_1 f33_2 f33_3 f33_4 f33_5 f33_6 f33_7; try clear bf bg bh bi bj bk bm bn f36_0 f36_1 f36_2 f36_3 f36_4 f36_5 f36_6 f36_7; try clear bF bG bH bI bJ bK bL bM f44_0 f44_1 f44_2 f44_3 f44_4 f44_5 f44_6 f44_7; try clear bN bO bP bQ bR bS bT bU f50_0 f50_1 f50_2 f50_3 f50_4 f50_5 f50_6 f50_7; try clear bZ b0 b1 b2 b3 b4 b5 b6 f55_0 f55_1 f55_2 f55_3 f55_4 f55_5 f55_6 f55_7; try clear b7 b8 b9 ca cb cc cd ce f58_0 f58_1 f58_2 f58_3 f58_4 f58_5 f58_6 f58_7; try clear cB cC cD cE cF cG cH cI f71_0 f71_1 f71_2 f71_3 f71_4 f71_5 f71_6 f71_7; try clear cJ cK cM cN cO cP cQ cS f76_0 f76_1 f76_2 f76_3 f76_4 f76_5 f76_6 f76_7; try clear cU cV cW cX cY cZ c0 da f81_0 f81_1 f81_2 f81_3 f81_4 f81_5 f81_6 f81_7; try clear db dc dd de df dg dh di f86_0 f86_1 f86_2 f86_3 f86_4 f86_5 f86_6 f86_7; try clear dj dk dl dm dn dp dq dr f90_0 f90_1 f90_2 f90_3 f90_4 f90_5 f90_6 f90_7; try clear dA dB dC dD dE dF dG dH f95_0 f95_1 f95_2 f95_3 f95_4 f95_5 f95_6 f95_7; try clear dI dJ dK dL dM dN dO dP f98_0 f98_1 f98_2 f98_3 f98_4 f98_5 f98_6 f98_7; try clear f110_0 f110_1; try clear f113_0 f113_1 f113_2 f113_3 f113_4 f113_5 f113_6 f113_7; try clear f31_0 f31_1 f31_2 f31_3 f31_4 f31_5 f31_6 f31_7
                try clear hx237_0; try clear hx239_0; try clear hx246_0; try clear hx248_0; try clear p2; try clear p21; try clear p237; try clear p239; try clear p246; try clear p248; try clear p6; try clear p64; try clear q2; try clear q21; try clear q237; try clear q239; try clear q246; try clear q248
                obtain ⟨aU, aM, u227006, rfl, HA, HK7, O1, O4, O5, O6, K1, K2, K3, HB⟩ := hrel
                cases gk with
                | zero => exact absurd HA.out (by simp [mD.l4])
                | succ k7 =>
                 have H := HA.out
                 clear HA
                 simp only [mD.l4] at H
                 by_cases c136 : aU < (ag.length : Int)
                 ·rw [if_pos c136] at H
                  have eR : decide (aU < (ag.length : Int)) = true := decide_eq_true c136
                  clear c136
                  by_cases c137 : aU < 3
                  ·rw [if_pos c137] at H
                   have eS : decide (aU < 3) = true := decide_eq_true c137
                   clear c137
                   obtain ⟨cu, cp⟩ : ∃ y_ : List ByteArray, y_ = (([(⟨#[97]⟩ : ByteArray), (⟨#[117, 115]⟩ : ByteArray), (⟨#[112, 114, 105, 118, 97, 116, 101, 49]⟩ : ByteArray), (⟨#[120]⟩ : ByteArray)] : List ByteArray)) := ⟨_, rfl⟩
                   replace H : (if 0 ≤ aU then ((r6_Pick.f cu (rd ag aU)).bind fun cv => (if aM.length < 8796093022208 then (mD.l4 k7 (wrap64 (aU + 1)) aj af ai ah ad ae ag ak al x1_ ap aq x4_ x5_ (aM ++ [cv]) (⟨#[]⟩ : ByteArray)) else (none))) else (none)) = some (r1, r2, r3, r4, r5, r6, r7, r8) := by first | (rw [cp]; with_reducible exact H) | (have H2_ := (Option.bind_some _ _).symm.trans H; rw [cp]; with_reducible exact H2_) | (have H2_ := (Option.bind_some _ _).symm.trans H; with_reducible exact H2_) | with_reducible exact H | (rw [cp]; exact H) | exact H
                   have ef := Aside0.mk cp
                   clear cp
                   by_cases c138 : 0 ≤ aU
                   ·rw [if_pos c138] at H
                    have fd : decide (0 ≤ aU) = true := decide_eq_true c138
                    clear c138
                    replace H := Option.bind_eq_some_iff.mp H
                    obtain ⟨cv, A1413, H⟩ := H
                    replace H : (if aM.length < 8796093022208 then (mD.l4 k7 (wrap64 (aU + 1)) aj af ai ah ad ae ag ak al x1_ ap aq x4_ x5_ (aM ++ [cv]) (⟨#[]⟩ : ByteArray)) else (none)) = some (r1, r2, r3, r4, r5, r6, r7, r8) := H
                    have fe := Aside0.mk A1413
                    clear A1413
                    by_cases c140 : aM.length < 8796093022208
                    ·rw [if_pos c140] at H
                     have eT := Aside0.mk c140
                     clear c140
                     obtain ⟨cw, cq⟩ : ∃ y_ : List ByteArray, y_ = (aM ++ [cv]) := ⟨_, rfl⟩
                     replace H : (mD.l4 k7 (wrap64 (aU + 1)) aj af ai ah ad ae ag ak al x1_ ap aq x4_ x5_ cw (⟨#[]⟩ : ByteArray)) = some (r1, r2, r3, r4, r5, r6, r7, r8) := by first | (rw [cq]; with_reducible exact H) | (have H2_ := (Option.bind_some _ _).symm.trans H; rw [cq]; with_reducible exact H2_) | (have H2_ := (Option.bind_some _ _).symm.trans H; with_reducible exact H2_) | with_reducible exact H | (rw [cq]; exact H) | exact H
                     have e8 := Aside0.mk cq
                     clear cq
                     have H' := Aside0.mk H
                     clear H
                     have hnb141 := N12.out
                     have hnc141 := N21.out
                     have hnb142 := N13.out
                     have hnc142 := N31.out
                     obtain ⟨ff, fg, fh, fi, fj, fk, fl, fm, f143_0, f143_1, f143_2, f143_3, f143_4, f143_5, f143_6, f143_7⟩ := cells8 K1.out
                     try go_wp2
                     have aD := Aside0.mk (rD_ O1.out)
                     have aE := Aside0.mk (rD_ O4.out)
                     have aG := Aside0.mk (tD_ O5.out)
                     have aH := Aside0.mk (rD_ O6.out)
                     have aJ := Aside0.mk (bD_ K1.out)
                     have aQ := Aside0.mk (bD_ K2.out)
                     have aR := Aside0.mk (bD_ K3.out)
                     have aY := Aside0.mk (wD_ HB.out)
                     clear O1 O4 O5 O6 K1 K2 K3 HB
                     have O1 := aD; have O4 := aE; have O5 := aG; have O6 := aH; have K1 := aJ; have K2 := aQ; have K3 := aR; have HB := aY
                     clear aD aE aG aH aJ aQ aR aY
                     have p262 : 0 ≤ (aU : Int) := of_decide_eq_true Qa
                     have q262 : aU < (ag.length : Int) := of_decide_eq_true Qa
                     obtain ⟨ad262, e262, hx262_0⟩ := Kd.at_int eW.out aU p262 q262
                     have hw262_0 := hx262_0
                     cases e262
                     replace hx262_0 := (HB.out.cell (World.block_lt_of_cell? w _ hx262_0)).trans hx262_0
                     replace p262 := eq_true p262
                     replace q262 := eq_true q262
                     refine start_ (n := 13) (S := fun w' => w'.cell? ⟨aa, 0, none⟩ = some (.string al) ∧ w'.cell? ⟨aa, 1, none⟩ = some (u227001) ∧ w'.cell? ⟨aa, 2, none⟩ = some (.string ap) ∧ w'.cell? ⟨aa, 3, none⟩ = some (.string aq) ∧ w'.cell? ⟨aa, 4, none⟩ = some (u227004) ∧ w'.cell? ⟨aa, 5, none⟩ = some (u227005) ∧ w'.cell? ⟨aa, 6, none⟩ = some (u227006) ∧ w'.cell? ⟨aa, 7, none⟩ = some (.string (⟨#[]⟩ : ByteArray)) ∧ w'.cell? ⟨ab, 0, none⟩ = some (.int .i64 aj) ∧ w'.cell? ⟨ab, 1, none⟩ = some (.int .i64 af) ∧ w'.cell? ⟨ab, 2, none⟩ = some (.int .i64 ai) ∧ w'.cell? ⟨ab, 3, none⟩ = some (.int .i64 ah) ∧ w'.cell? ⟨ab, 4, none⟩ = some (.slice ax ad.length ar) ∧ w'.cell? ⟨ab, 5, none⟩ = some (.slice ay ae.length au) ∧ w'.cell? ⟨ab, 6, none⟩ = some (.slice (some ad262) ag.length av) ∧ w'.cell? ⟨ab, 7, none⟩ = some (.int .i64 ak) ∧ w'.cell? (ad262.add (aU).toNat) = some (.int .i64 (rd ag aU))) (ds := [12]) #[false, false, false, false, false, false, false, false, false, false, false, false, false] (by kernel_rfl) rfl rfl ⟨(bC_ K3.out 0).trans rfl, (bC_ K3.out 1).trans rfl, (bC_ K3.out 2).trans rfl, (bC_ K3.out 3).trans rfl, (bC_ K3.out 4).trans rfl, (bC_ K3.out 5).trans rfl, (bC_ K3.out 6).trans rfl, (bC_ K3.out 7).trans rfl, (bC_ K1.out 0).trans rfl, (bC_ K1.out 1).trans rfl, (bC_ K1.out 2).trans rfl, (bC_ K1.out 3).trans rfl, (bC_ K1.out 4).trans rfl, (bC_ K1.out 5).trans rfl, (bC_ K1.out 6).trans rfl, (bC_ K1.out 7).trans rfl, ((HB.out.cell (World.block_lt_of_cell? w _ hw262_0)).trans hw262_0)⟩ (fun hHeld => ?_); refine with_tabW mD.tab28 mD.bits28 (fun HT_ HW_ => ?_)
                     generalize wr.drew = w144 at O1 O4 O5 O6 K1 K2 K3 HB hx262_0 hHeld ⊢
                     refine pu_ (i := 0) (N := some 147) HT_ (bl_ 13 1) ?_
                     refine pu_ (i := 3) (N := some 150) HT_ (bl_ 13 9) ?_
                     refine pu_ (i := 5) (N := some 152) HT_ (bl_ 13 41) ?_
                     refine tk_ (i := 1) (N := some 148) HT_ HW_ (bl_ 13 43) hHeld ?_ (hy := by rintro w' ⟨s0, s1, s2, s3, s4, s5, s6, s7, s8, s9, s10, s11, s12, s13, s14, s15, s16⟩; go_simp; with_reducible rfl)
                     refine tk_ (i := 4) (N := some 151) HT_ HW_ (bl_ 13 59) hHeld ?_ (hy := by rintro w' ⟨s0, s1, s2, s3, s4, s5, s6, s7, s8, s9, s10, s11, s12, s13, s14, s15, s16⟩; go_simp; with_reducible rfl)
                     refine pu_ (i := 6) (N := some 153) HT_ (bl_ 13 123) ?_
                     refine tk_ (i := 7) (N := some 154) HT_ HW_ (bl_ 13 251) hHeld ?_ (hy := by rintro w' ⟨s0, s1, s2, s3, s4, s5, s6, s7, s8, s9, s10, s11, s12, s13, s14, s15, s16⟩; go_simp; with_reducible rfl)
                     refine on_ (i := 2) (N := some 149) HT_ (bl_ 13 255) rfl rfl (fun K hK => ?_)
                     refine Kd.R_lit_step Kd.string _ 9 ?hg (N := 149) ?hd (xs := ([(⟨#[97]⟩ : ByteArray), (⟨#[117, 115]⟩ : ByteArray), (⟨#[112, 114, 105, 118, 97, 116, 101, 49]⟩ : ByteArray), (⟨#[120]⟩ : ByteArray)] : List ByteArray)) (inner := [.string (⟨#[97]⟩ : ByteArray), .string (⟨#[117, 115]⟩ : ByteArray), .string (⟨#[112, 114, 105, 118, 97, 116, 101, 49]⟩ : ByteArray), .string (⟨#[120]⟩ : ByteArray)]) (ok := fun _ => True) (okp := fun _ => True) ?hr ?hp (fun _ hk => hk) trivial (Below.refl _ _) (Nat.le_refl _) (by simp) ?_; (case hd => rfl); (case hg => rfl); (case hr => first | (go_simp; done) | (go_simp; rfl)); (case hp => exact (Reps.one (show Kd.M Kd.string _ _ _ (⟨#[97]⟩ : ByteArray) [.string (⟨#[97]⟩ : ByteArray)] from rfl) (Reps.one (show Kd.M Kd.string _ _ _ (⟨#[117, 115]⟩ : ByteArray) [.string (⟨#[117, 115]⟩ : ByteArray)] from rfl) (Reps.one (show Kd.M Kd.string _ _ _ (⟨#[112, 114, 105, 118, 97, 116, 101, 49]⟩ : ByteArray) [.string (⟨#[112, 114, 105, 118, 97, 116, 101, 49]⟩ : ByteArray)] from rfl) (Reps.one (show Kd.M Kd.string _ _ _ (⟨#[120]⟩ : ByteArray) [.string (⟨#[120]⟩ : ByteArray)] from rfl) (Reps.none _ _))))))
                     intro v260 w145 ho146 hb hg_ hnew_
                     clear hg_ hnew_
                     (first | rw [← ef.out] at ho146 | (simp only [Int.reduceToNat] at ho146; rw [← ef.out] at ho146))
                     have aD := Aside0.mk (Kd.R_elder' (Qr O1.out) (Kd.R_base ho146) hb)
                     have aE := Aside0.mk (Kd.R_elder' (Qr O4.out) (Kd.R_base ho146) hb)
                     have aG := Aside0.mk (Kd.S_elder' (by (with_reducible repeat (first | apply tA_ | apply tN_ | apply tD_)); exact O5.out) (Kd.R_base ho146) hb)
                     have aH := Aside0.mk (Kd.R_elder' (Qr O6.out) (Kd.R_base ho146) hb)
                     have aJ := Aside0.mk (Kd.R_lower (Kd.R_new' (Kd.R_new' (Kd.R_new' ho146 (Kd.R_lt (Qr O1.out))) (Kd.R_lt (Qr O4.out))) (Kd.R_lt (Qr O6.out))) (below_size (Qz HB.out az.out aC.out ao.out)))
                     have aQ := Aside0.mk (blk_below (g := ab) (o := .cells #[.int .i64 aj, .int .i64 af, .int .i64 ai, .int .i64 ah, .slice ax ad.length ar, .slice ay ae.length au, .slice (some ad262) ag.length av, .int .i64 ak] 31 (0, 0)) (Qb K1.out) hb)
                     have aR := Aside0.mk (blk_below (g := ac) (o := .cells zT_ 34 (0, 0)) (Qb K2.out) hb)
                     have aY := Aside0.mk (blk_below (g := aa) (o := .cells #[.string al, u227001, .string ap, .string aq, u227004, u227005, u227006, .string (⟨#[]⟩ : ByteArray)] 34 (0, 0)) (Qb K3.out) hb)
                     have a0 := Aside0.mk (below_step (Qz HB.out az.out aC.out ao.out) hb)
                     clear O1 O4 O5 O6 K1 K2 K3 HB
                     have O1 := aD; have O4 := aE; have O5 := aG; have O6 := aH; have bY := aJ; have K1 := aQ; have K2 := aR; have K3 := aY; have HB := a0
                     clear aD aE aG aH aJ aQ aR aY a0 hb ho146
                     obtain ⟨Ao170, co170, eo170⟩ := Kd.R_slice bY.out
                     (first | subst eo170 | (injection eo170 with f1_ f2_ f3_; have f4_ := f1_.symm; have f5_ := f3_.symm; clear f1_ f2_ f3_; subst f4_; subst f5_))
                     refine hK.out _ _ ⟨(bC_ K3.out 0).trans rfl, (bC_ K3.out 1).trans rfl, (bC_ K3.out 2).trans rfl, (bC_ K3.out 3).trans rfl, (bC_ K3.out 4).trans rfl, (bC_ K3.out 5).trans rfl, (bC_ K3.out 6).trans rfl, (bC_ K3.out 7).trans rfl, (bC_ K1.out 0).trans rfl, (bC_ K1.out 1).trans rfl, (bC_ K1.out 2).trans rfl, (bC_ K1.out 3).trans rfl, (bC_ K1.out 4).trans rfl, (bC_ K1.out 5).trans rfl, (bC_ K1.out 6).trans rfl, (bC_ K1.out 7).trans rfl, ((HB.out.cell (World.block_lt_of_cell? w _ hw262_0)).trans hw262_0)⟩ (fun hHeld => ?_)
                     clear hK K
                     refine nm_ (some 149) ?_
                     refine on_ (i := 8) (N := some 155) HT_ (bl_ 13 511) rfl rfl (fun K hK => ?_)
                     refine goes_ Try.func35 (by kernel_rfl) rfl #[.slice Ao170 cu.length co170, .int .i64 (rd ag aU)] (by rfl) rfl rfl Qm ?_
                     with_reducible refine (r6_Pick.calls _ _ cu (rd ag aU) cv _ ?side1 ?side2 fe.out).mono ?_
                     (case side1 => repeat (first | exact (Kd.R_reads' bY.out).2.2 | (with_reducible refine Kd.C_alloc ?_ _) | (with_reducible refine Kd.C_drewN ?_ _) | (with_reducible refine Kd.C_drew ?_)))
                     (case side2 => exact (Kd.R_reads' bY.out).2.1)
                     rintro e w' ⟨rfl, ⟨nd, rfl⟩⟩
                     refine ⟨_, rfl, ?_⟩
                     refine hK.out _ _ ⟨(bC_ K3.out 0).trans rfl, (bC_ K3.out 1).trans rfl, (bC_ K3.out 2).trans rfl, (bC_ K3.out 3).trans rfl, (bC_ K3.out 4).trans rfl, (bC_ K3.out 5).trans rfl, (bC_ K3.out 6).trans rfl, (bC_ K3.out 7).trans rfl, (bC_ K1.out 0).trans rfl, (bC_ K1.out 1).trans rfl, (bC_ K1.out 2).trans rfl, (bC_ K1.out 3).trans rfl, (bC_ K1.out 4).trans rfl, (bC_ K1.out 5).trans rfl, (bC_ K1.out 6).trans rfl, (bC_ K1.out 7).trans rfl, ((HB.out.cell (World.block_lt_of_cell? w _ hw262_0)).trans hw262_0)⟩ (fun hHeld => ?_)
                     clear hK K
                     refine nm_ (some 155) ?_
                     refine on_ (i := 9) (N := some 156) HT_ (bl_ 13 1023) rfl rfl (fun K hK => ?_)
                     refine value_ (w1 := ?_) (v := ?_) (by rfl) rfl ?_ ?_
                     rotate_left 2
                     ·go_simp
                      constructor
                      ·rfl
                      ·rfl
                     refine hK.out _ _ ⟨(bC_ (bA_ K3.out _) 0).trans rfl, (bC_ (bA_ K3.out _) 1).trans rfl, (bC_ (bA_ K3.out _) 2).trans rfl, (bC_ (bA_ K3.out _) 3).trans rfl, (bC_ (bA_ K3.out _) 4).trans rfl, (bC_ (bA_ K3.out _) 5).trans rfl, (bC_ (bA_ K3.out _) 6).trans rfl, (bC_ (bA_ K3.out _) 7).trans rfl, (bC_ (bA_ K1.out _) 0).trans rfl, (bC_ (bA_ K1.out _) 1).trans rfl, (bC_ (bA_ K1.out _) 2).trans rfl, (bC_ (bA_ K1.out _) 3).trans rfl, (bC_ (bA_ K1.out _) 4).trans rfl, (bC_ (bA_ K1.out _) 5).trans rfl, (bC_ (bA_ K1.out _) 6).trans rfl, (bC_ (bA_ K1.out _) 7).trans rfl, (World.cell?_alloc_lt _ _ _ (World.block_lt_of_cell? _ _ (((HB.out.cell (World.block_lt_of_cell? w _ hw262_0)).trans hw262_0)))).trans (((HB.out.cell (World.block_lt_of_cell? w _ hw262_0)).trans hw262_0))⟩ (fun hHeld => ?_)
                     clear hK K
                     refine nm_ (some 156) ?_
                     refine on_ (i := 10) (N := some 157) HT_ (bl_ 13 2047) rfl rfl (fun K hK => ?_)
                     refine Kd.R_append_step Kd.string (w0 := w) w.heap.size (by rfl) (.tmp 148) (.tmp 156) 25 9 (.string ⟨#[]⟩) 16 rfl Try.underlying25 info9 rfl (by decide) (by omega) u227006 aM cv [.string cv] (fun k_ => some k_ ≠ (u227001 : Value).ownBlock ∧ some k_ ≠ (u227004 : Value).ownBlock ∧ some k_ ≠ (.slice Ao170 cu.length co170 : Value).ownBlock) (fun _ => False) rfl rfl ?aP (fun _ hk => hk.elim) ?aF ?aO ?aB ?aS ?aL ?_
                     (case aP => exact rfl)
                     (case aB => exact (Qz HB.out az.out aC.out ao.out))
                     (case aF => exact (fun k_ hk => ⟨Kd.fresh' (Kd.R_lt (Qr O1.out)) k_ hk, Kd.fresh' (Kd.R_lt (Qr O4.out)) k_ hk, Kd.fresh' (Kd.R_lt (Qr bY.out)) k_ hk⟩))
                     (case aO => exact (by (with_reducible repeat (first | apply rA_ | apply rN_ | apply rD_)); exact Kd.R_mono O6.out (fun _ hk => ⟨hk.1.1, ⟨hk.1.2, hk.2⟩⟩)))
                     (case aS => exact (below_size (Qz HB.out az.out aC.out ao.out)))
                     (case aL => have := eT.out; omega)
                     intro v265 w171 ho hb hg hat
                     rw [← e8.out] at ho
                     have aD := Aside0.mk (Kd.R_after (ok := (fun k_ => some k_ ≠ (u227004 : Value).ownBlock ∧ some k_ ≠ (.slice Ao170 cu.length co170 : Value).ownBlock)) (by (with_reducible repeat (first | apply rA_ | apply rN_ | apply rD_)); exact Kd.R_mono O1.out (fun _ hk => ⟨⟨hk.1.1, hk.2⟩, hk.1.2⟩)) hg hat)
                     have aE := Aside0.mk (Kd.R_after (ok := (fun k_ => some k_ ≠ (u227001 : Value).ownBlock ∧ some k_ ≠ (.slice Ao170 cu.length co170 : Value).ownBlock)) (by (with_reducible repeat (first | apply rA_ | apply rN_ | apply rD_)); exact Kd.R_mono O4.out (fun _ hk => ⟨⟨hk.1.1, hk.2⟩, hk.1.2⟩)) hg hat)
                     have aG := Aside0.mk (Kd.S_after (ok := (fun k_ => some k_ ≠ (u227001 : Value).ownBlock ∧ some k_ ≠ (u227004 : Value).ownBlock ∧ some k_ ≠ (.slice Ao170 cu.length co170 : Value).ownBlock)) (by (with_reducible repeat (first | apply tA_ | apply tN_ | apply tD_)); exact Kd.S_mono O5.out (fun _ hk => ⟨⟨hk.1.1, ⟨hk.1.2.1, hk.2⟩⟩, hk.1.2.2⟩)) hg hat)
                     have aH := Aside0.mk (blk_grown (g := ab) (o := .cells #[.int .i64 aj, .int .i64 af, .int .i64 ai, .int .i64 ah, .slice ax ad.length ar, .slice ay ae.length au, .slice (some ad262) ag.length av, .int .i64 ak] 31 (0, 0)) (Qb K1.out) hg (Kd.R_ne O6.out K1.out (by decide)))
                     have aJ := Aside0.mk (blk_grown (g := ac) (o := .cells zT_ 34 (0, 0)) (Qb K2.out) hg (Kd.R_ne O6.out K2.out (by decide)))
                     have aQ := Aside0.mk (blk_grown (g := aa) (o := .cells #[.string al, u227001, .string ap, .string aq, u227004, u227005, u227006, .string (⟨#[]⟩ : ByteArray)] 34 (0, 0)) (Qb K3.out) hg (Kd.R_ne O6.out K3.out (by decide)))
                     have aR := Aside0.mk (Kd.R_after (ok := (fun k_ => some k_ ≠ (u227001 : Value).ownBlock ∧ some k_ ≠ (u227004 : Value).ownBlock)) (by (with_reducible repeat (first | apply rA_ | apply rN_ | apply rD_)); exact Kd.R_mono bY.out (fun _ hk => ⟨⟨hk.1.1.2, hk.1.2⟩, hk.2⟩)) hg hat)
                     have aY := Aside0.mk (hb)
                     have a0 := Aside0.mk (ho)
                     clear O1 O4 O5 K1 K2 K3 bY HB O6
                     have O1 := aD; have O4 := aE; have O5 := aG; have K1 := aH; have K2 := aJ; have K3 := aQ; have bY := aR; have HB := aY; have eg := a0
                     clear aD aE aG aH aJ aQ aR aY a0 ho hb hg hat
                     obtain ⟨Ao172, co172, eo172⟩ := Kd.R_slice eg.out
                     (first | subst eo172 | (injection eo172 with f1_ f2_ f3_; have f4_ := f1_.symm; have f5_ := f3_.symm; clear f1_ f2_ f3_; subst f4_; subst f5_))
                     refine hK.out _ _ ⟨(bC_ K3.out 0).trans rfl, (bC_ K3.out 1).trans rfl, (bC_ K3.out 2).trans rfl, (bC_ K3.out 3).trans rfl, (bC_ K3.out 4).trans rfl, (bC_ K3.out 5).trans rfl, (bC_ K3.out 6).trans rfl, (bC_ K3.out 7).trans rfl, (bC_ K1.out 0).trans rfl, (bC_ K1.out 1).trans rfl, (bC_ K1.out 2).trans rfl, (bC_ K1.out 3).trans rfl, (bC_ K1.out 4).trans rfl, (bC_ K1.out 5).trans rfl, (bC_ K1.out 6).trans rfl, (bC_ K1.out 7).trans rfl, ((HB.out.cell (World.block_lt_of_cell? w _ hw262_0)).trans hw262_0)⟩ (fun hHeld => ?_)
                     clear hK K
                     refine nm_ (some 157) ?_
                     refine pu_ (i := 11) (N := some 158) HT_ (bl_ 13 4095) ?_
                     refine last_ (i := 12) (N := none) #[true, true, true, true, true, true, true, true, true, true, true, true, true] rfl rfl (one_of HT_.out (by kernel_rfl)) (by decide) (fun K hK => ?_)
                     have hs173 : w171.cell? ⟨aa, 6, none⟩ = some (u227006) := (bC_ K3.out 6).trans rfl
                     have hfs173 := bF_ K3.out 6
                     have hns173_0 := N13.out
                     have hns173_1 := N23.out
                     have hms173_0 := N31.out
                     have hms173_1 := N32.out
                     refine skip_ (w1 := ?_) (by rfl) rfl ?_ ?_
                     rotate_left
                     ·go_simp
                      rfl
                     refine hK.out _ _ ?_
                     clear hK K
                     refine done_ (done_of HT_.out (by kernel_rfl)) ?_
                     try go_wp2
                     go_roundg k7
                     case measure => have := HJ7.out; have := HJ36.out; have := HK3.out; have := HJ50.out; have := HK5.out; have := HJ90.out; have := HK7.out; omega
                     case rel => exact ⟨(wrap64 (aU + 1)), (cw), (.slice Ao172 cw.length co172), Qs, H', ⟨by have := HJ7.out; have := HJ36.out; have := HK3.out; have := HJ50.out; have := HK5.out; have := HJ90.out; have := HK7.out; omega⟩, ⟨by (with_reducible repeat (first | apply rA_ | apply rN_ | apply rD_)); exact Kd.R_mono (Kd.R_far (p := ⟨aa, 6, none⟩) (Kd.R_types O1.out K3.out (by decide)) (fun _ hk => hk.2) (.slice Ao172 cw.length co172)) (fun _ hk => ⟨hk.1.1.1, hk.1.2⟩)⟩, ⟨by (with_reducible repeat (first | apply rA_ | apply rN_ | apply rD_)); exact Kd.R_mono (Kd.R_far (p := ⟨aa, 6, none⟩) (Kd.R_types O4.out K3.out (by decide)) (fun _ hk => hk.2) (.slice Ao172 cw.length co172)) (fun _ hk => ⟨hk.1.1.1, hk.1.2⟩)⟩, ⟨by (with_reducible repeat (first | apply tA_ | apply tN_ | apply tD_)); exact Kd.S_mono (Kd.S_far (p := ⟨aa, 6, none⟩) (Kd.S_types O5.out K3.out (by decide)) (fun _ hk => hk.2) (.slice Ao172 cw.length co172)) (fun _ hk => ⟨hk.1.1.1, ⟨hk.1.1.2.1, hk.1.2⟩⟩)⟩, ⟨by (with_reducible repeat (first | apply rA_ | apply rN_ | apply rD_)); exact Kd.R_mono (Kd.R_far (p := ⟨aa, 6, none⟩) (Kd.R_types eg.out K3.out (by decide)) (fun _ hk => hk.2) (.slice Ao172 cw.length co172)) (fun _ hk => ⟨hk.1.1, hk.1.2.1⟩)⟩, ⟨by (with_reducible repeat (first | refine bN_ ?_ _ | refine bD_ ?_ | refine bA_ ?_ _)); refine blk_far ?_ N13.out _; (with_reducible repeat (first | refine bN_ ?_ _ | refine bD_ ?_ | refine bA_ ?_ _)); exact K1.out⟩, ⟨by (with_reducible repeat (first | refine bN_ ?_ _ | refine bD_ ?_ | refine bA_ ?_ _)); refine blk_far ?_ N23.out _; (with_reducible repeat (first | refine bN_ ?_ _ | refine bD_ ?_ | refine bA_ ?_ _)); exact K2.out⟩, ⟨by (with_reducible repeat (first | refine bN_ ?_ _ | refine bD_ ?_ | refine bA_ ?_ _)); refine blk_put (cs := #[.string al, u227001, .string ap, .string aq, u227004, u227005, u227006, .string (⟨#[]⟩ : ByteArray)]) ?_ 6 _ rfl; (with_reducible repeat (first | refine bN_ ?_ _ | refine bD_ ?_ | refine bA_ ?_ _)); exact K3.out⟩, ⟨Qz HB.out az.out aC.out ao.out⟩⟩
                    ·rw [if_neg c140] at H
                     exact absurd H (by simp)
                   ·rw [if_neg c138] at H
                    exact absurd H (by simp)
                  ·rw [if_neg c137] at H
                   have eS : decide (aU < 3) = false := decide_eq_false c137
                   clear c137
                   replace H := Option.bind_eq_some_iff.mp H
                   obtain ⟨⟨dS, dT, dU, dV, dW, dX, dY, dZ⟩, A1533, H⟩ := H
                   replace H : (some (dS, dT, dU, dV, dW, dX, dY, dZ)) = some (r1, r2, r3, r4, r5, r6, r7, r8) := H
                   have fn := Aside0.mk A1533
                   clear A1533
                   simp only [Option.some.injEq, Prod.mk.injEq] at H
                   obtain ⟨rfl, rfl, rfl, rfl, rfl, rfl, rfl, rfl⟩ := H
                   have hnb175 := N12.out
                   have hnc175 := N21.out
                   have hnb176 := N13.out
                   have hnc176 := N31.out
                   obtain ⟨fo, fp, fq, fr, fs, ft, fu, fv, f177_0, f177_1, f177_2, f177_3, f177_4, f177_5, f177_6, f177_7⟩ := cells8 K1.out
                   have hnb178 := N32.out
                   have hnc178 := N23.out
                   obtain ⟨fw, fx, fy, fz, fA, fB, fC, fD, f179_0, f179_1, f179_2, f179_3, f179_4, f179_5, f179_6, f179_7⟩ := cells8 K3.out
                   obtain ⟨Ao180, co180, eo180⟩ := Kd.R_slice O1.out
                   subst eo180
                   obtain ⟨Ao181, co181, eo181⟩ := Kd.R_slice O4.out
                   subst eo181
                   obtain ⟨Ao182, co182, eo182⟩ := Kd.S_slice O5.out
                   subst eo182
                   obtain ⟨Ao183, co183, eo183⟩ := Kd.R_slice O6.out
                   subst eo183
                   have hO : OwnT wr w.heap.size (.slice Ao180 x1_.length co180) (.slice Ao181 x4_.length co181) (.slice Ao182 x5_.length co182) (.slice Ao183 aM.length co183) x1_ x4_ x5_ aM := ⟨O1.out, O4.out, O5.out, O6.out⟩
                   have aJ := Kd.R_ne O4.out K2.out (by decide)
                   have aQ := Kd.S_ne O5.out K2.out (by decide)
                   have aR := Kd.R_ne O6.out K2.out (by decide)
                   have fE := Aside0.mk hO
                   have HN1 := Aside0.mk (And.intro aJ (And.intro aQ aR))
                   clear hO aJ aQ aR
                   go_wp2_with (go_at_call 41; refine (spoilt_calls k7 al ap aq (⟨#[]⟩ : ByteArray) Ao180 co180 x1_ Ao181 co181 x4_ Ao182 co182 x5_ Ao183 co183 aM (Int.tmod (wrap64 ((Int.tmod ak 12) + 12)) 12) dS dT dU dV dW dX dY dZ _ w.heap.size (below_size HB.out) fE.out fn.out).mono ?_; rintro e w9 ⟨v1_, v4_, v5_, v6_, rfl, ho, hb, hk⟩; have BZ := (hk ac (blk_lt K2.out) HN1.out.1 HN1.out.2.1 HN1.out.2.2).trans K2.out; have z0 := (bC_ BZ 0).trans rfl; have zf0 := bF_ BZ 0; have z1 := (bC_ BZ 1).trans rfl; have zf1 := bF_ BZ 1; have z2 := (bC_ BZ 2).trans rfl; have zf2 := bF_ BZ 2; have z3 := (bC_ BZ 3).trans rfl; have zf3 := bF_ BZ 3; have z4 := (bC_ BZ 4).trans rfl; have zf4 := bF_ BZ 4; have z5 := (bC_ BZ 5).trans rfl; have zf5 := bF_ BZ 5; have z6 := (bC_ BZ 6).trans rfl; have zf6 := bF_ BZ 6; have z7 := (bC_ BZ 7).trans rfl; have zf7 := bF_ BZ 7; have HZ := Aside0.mk BZ; obtain ⟨B1_, d1_, e1_⟩ := Kd.R_slice ho.1; subst e1_; obtain ⟨B4_, d4_, e4_⟩ := Kd.R_slice ho.2.1; subst e4_; obtain ⟨B5_, d5_, e5_⟩ := Kd.S_slice ho.2.2.1; subst e5_; obtain ⟨B6_, d6_, e6_⟩ := Kd.R_slice ho.2.2.2; subst e6_; have HP := Aside0.mk ho; have HQ := Aside0.mk hb; clear BZ ho hb hk)
                   refine bodyPost_ret (results_cell_row rfl _ _ ac 34 #[.string dS, .slice B1_ dT.length d1_, .string dU, .string dV, .slice B4_ dW.length d4_, .slice B5_ dX.length d5_, .slice B6_ dY.length d6_, .string dZ] (0, 0) _ rfl (put8 HZ.out _ _ _ _ _ _ _ _) Try.underlying34 rfl (by kernel_rfl)) rfl ?_
                   have hs := HP.out.set8 HZ.out (.string dS) (.slice B1_ dT.length d1_) (.string dU) (.string dV) (.slice B4_ dW.length d4_) (.slice B5_ dX.length d5_) (.slice B6_ dY.length d6_) (.string dZ)
                   exact ⟨_, _, _, _, rfl, hs.1, hs.2.1, hs.2.2.1, hs.2.2.2, below8 (HB.out.trans HQ.out) aC.out _ _ _ _ _ _ _ _⟩
                 ·rw [if_neg c136] at H
                  have eR : decide (aU < (ag.length : Int)) = false := decide_eq_false c136
                  clear c136
                  replace H := Option.bind_eq_some_iff.mp H
                  obtain ⟨⟨d0, d1, d2, d3, d4, d5, d6, d7⟩, A1693, H⟩ := H
                  replace H : (some (d0, d1, d2, d3, d4, d5, d6, d7)) = some (r1, r2, r3, r4, r5, r6, r7, r8) := H
                  have fF := Aside0.mk A1693
                  clear A1693
                  simp only [Option.some.injEq, Prod.mk.injEq] at H
                  obtain ⟨rfl, rfl, rfl, rfl, rfl, rfl, rfl, rfl⟩ := H
                  have hnb191 := N12.out
                  have hnc191 := N21.out
                  have hnb192 := N13.out
                  have hnc192 := N31.out
                  obtain ⟨fG, fH, fI, fJ, fK, fL, fM, fN, f193_0, f193_1, f193_2, f193_3, f193_4, f193_5, f193_6, f193_7⟩ := cells8 K1.out
                  have hnb194 := N32.out
                  have hnc194 := N23.out
                  obtain ⟨fO, fP, fQ, fR, fS, fT, fU, fV, f195_0, f195_1, f195_2, f195_3, f195_4, f195_5, f195_6, f195_7⟩ := cells8 K3.out
                  obtain ⟨Ao196, co196, eo196⟩ := Kd.R_slice O1.out
                  subst eo196
                  obtain ⟨Ao197, co197, eo197⟩ := Kd.R_slice O4.out
                  subst eo197
                  obtain ⟨Ao198, co198, eo198⟩ := Kd.S_slice O5.out
                  subst eo198
                  obtain ⟨Ao199, co199, eo199⟩ := Kd.R_slice O6.out
                  subst eo199
                  have hO : OwnT wr w.heap.size (.slice Ao196 x1_.length co196) (.slice Ao197 x4_.length co197) (.slice Ao198 x5_.length co198) (.slice Ao199 aM.length co199) x1_ x4_ x5_ aM := ⟨O1.out, O4.out, O5.out, O6.out⟩
                  have aJ := Kd.R_ne O4.out K2.out (by decide)
                  have aQ := Kd.S_ne O5.out K2.out (by decide)
                  have aR := Kd.R_ne O6.out K2.out (by decide)
                  have fE := Aside0.mk hO
                  have HN1 := Aside0.mk (And.intro aJ (And.intro aQ aR))
                  clear hO aJ aQ aR
                  go_wp2_with (go_at_call 41; refine (spoilt_calls k7 al ap aq (⟨#[]⟩ : ByteArray) Ao196 co196 x1_ Ao197 co197 x4_ Ao198 co198 x5_ Ao199 co199 aM (Int.tmod (wrap64 ((Int.tmod ak 12) + 12)) 12) d0 d1 d2 d3 d4 d5 d6 d7 _ w.heap.size (below_size HB.out) fE.out fF.out).mono ?_; rintro e w9 ⟨v1_, v4_, v5_, v6_, rfl, ho, hb, hk⟩; have BZ := (hk ac (blk_lt K2.out) HN1.out.1 HN1.out.2.1 HN1.out.2.2).trans K2.out; have z0 := (bC_ BZ 0).trans rfl; have zf0 := bF_ BZ 0; have z1 := (bC_ BZ 1).trans rfl; have zf1 := bF_ BZ 1; have z2 := (bC_ BZ 2).trans rfl; have zf2 := bF_ BZ 2; have z3 := (bC_ BZ 3).trans rfl; have zf3 := bF_ BZ 3; have z4 := (bC_ BZ 4).trans rfl; have zf4 := bF_ BZ 4; have z5 := (bC_ BZ 5).trans rfl; have zf5 := bF_ BZ 5; have z6 := (bC_ BZ 6).trans rfl; have zf6 := bF_ BZ 6; have z7 := (bC_ BZ 7).trans rfl; have zf7 := bF_ BZ 7; have HZ := Aside0.mk BZ; obtain ⟨B1_, d1_, e1_⟩ := Kd.R_slice ho.1; subst e1_; obtain ⟨B4_, d4_, e4_⟩ := Kd.R_slice ho.2.1; subst e4_; obtain ⟨B5_, d5_, e5_⟩ := Kd.S_slice ho.2.2.1; subst e5_; obtain ⟨B6_, d6_, e6_⟩ := Kd.R_slice ho.2.2.2; subst e6_; have HP := Aside0.mk ho; have HQ := Aside0.mk hb; clear BZ ho hb hk)
                  refine bodyPost_ret (results_cell_row rfl _ _ ac 34 #[.string d0, .slice B1_ d1.length d1_, .string d2, .string d3, .slice B4_ d4.length d4_, .slice B5_ d5.length d5_, .slice B6_ d6.length d6_, .string d7] (0, 0) _ rfl (put8 HZ.out _ _ _ _ _ _ _ _) Try.underlying34 rfl (by kernel_rfl)) rfl ?_
                  have hs := HP.out.set8 HZ.out (.string d0) (.slice B1_ d1.length d1_) (.string d2) (.string d3) (.slice B4_ d4.length d4_) (.slice B5_ d5.length d5_) (.slice B6_ d6.length d6_) (.string d7)
                  exact ⟨_, _, _, _, rfl, hs.1, hs.2.1, hs.2.2.1, hs.2.2.2, below8 (HB.out.trans HQ.out) aC.out _ _ _ _ _ _ _ _⟩
end Go.Proofs.Ytojglflamecnkaa.P
