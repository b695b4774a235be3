-- Written for this claim by the session's own run of the print, functions proved by hand put in.
import Derived.Test.YtljadeeoaoiilaaGreatDoorSq
import Derived.Test.YtljadeeoaoiilaaGreatDoorPx0
import Derived.Test.YtljadeeoaoiilaaGreatDoorPx1
namespace Go.Proofs.YtljadeeoaoiilaaGreatDoor.P
open Go.RowKit Go.Proofs.YtljadeeoaoiilaaGreatDoorW.PrintWords Go.Proofs.YtljadeeoaoiilaaGreatDoorW.PrintLast Go.Proofs.YtljadeeoaoiilaaGreatDoorW.PrintMore
open List renaming setIfInBounds_toArray → sA_, set_cons_zero → sB_, set_cons_succ → sC_
open Go.Proofs.YtljadeeoaoiilaaGreatDoorW.PrintWords renaming blk_alloc → bA_, blk_drewN → bN_, blk_drew → bD_, blk_frozen → bF_, blk_cell → bC_, below_alloc → wA_, pw_below_drewN → wN_, below_drew1 → wD_, below_set → wS_, below_size → wZ_, below_step → wT_
open Go.Proofs.YtljadeeoaoiilaaGreatDoorW.PrintWords.Kd renaming R_alloc → rA_, R_drewN → rN_, R_drew → rD_, C_alloc → cA_, C_drewN → cN_, C_drew → cD_, C_below → cB_, S_alloc → tA_, S_drewN → tN_, S_drew → tD_, R_mono → rM_, R_elder' → rL_, R_lt → rT_
theorem c8_2 {w : World} {g : Nat} {t : TypeId} {x0 x1 x2 x3 x4 x5 x6 x7 : Value} (h : w.heap[g]? = some (.cells #[x0, x1, x2, x3, x4, x5, x6, x7] t (0, 0))) : w.cell? ⟨g, 0, none⟩ = some x0 ∧ w.cell? ⟨g, 1, none⟩ = some x1 ∧ w.cell? ⟨g, 2, none⟩ = some x2 ∧ w.cell? ⟨g, 3, none⟩ = some x3 ∧ w.cell? ⟨g, 4, none⟩ = some x4 ∧ w.cell? ⟨g, 5, none⟩ = some x5 ∧ w.cell? ⟨g, 6, none⟩ = some x6 ∧ w.cell? ⟨g, 7, none⟩ = some x7 ∧ w.frozen? ⟨g, 0, none⟩ = false ∧ w.frozen? ⟨g, 1, none⟩ = false ∧ w.frozen? ⟨g, 2, none⟩ = false ∧ w.frozen? ⟨g, 3, none⟩ = false ∧ w.frozen? ⟨g, 4, none⟩ = false ∧ w.frozen? ⟨g, 5, none⟩ = false ∧ w.frozen? ⟨g, 6, none⟩ = false ∧ w.frozen? ⟨g, 7, none⟩ = false :=
  ⟨(bC_ h 0).trans rfl, (bC_ h 1).trans rfl, (bC_ h 2).trans rfl, (bC_ h 3).trans rfl, (bC_ h 4).trans rfl, (bC_ h 5).trans rfl, (bC_ h 6).trans rfl, (bC_ h 7).trans rfl, bF_ h 0, bF_ h 1, bF_ h 2, bF_ h 3, bF_ h 4, bF_ h 5, bF_ h 6, bF_ h 7⟩
attribute [local go_sem] max2_int min2_int max_two min_two max_three min_three max_four min_four   -- for this text's walks alone
set_option linter.unusedVariables false
set_option linter.unusedSimpArgs false
mutual
def isoglosslaw06_few.l0 : Nat → Int → ByteArray → List ByteArray → ByteArray → ByteArray → List ByteArray → List (S40) → List ByteArray → ByteArray → ByteArray → List ByteArray → ByteArray → ByteArray → List ByteArray → List (S40) → List ByteArray → ByteArray → Option (ByteArray × List ByteArray × ByteArray × ByteArray × List ByteArray × (List (S40)) × List ByteArray × ByteArray)
 | 0, _, _, _, _, _, _, _, _, _, _, _, _, _, _, _, _, _ => none
 | k + 1, x4, be, bf, bg, bh, bi, a3, bj, bk, a7, a8, a9, ba, bb, a6, bc, bd => if x4 < (a3.length : Int) then (isoglosslaw06_few.j1 k x4 (decide (x4 < 4)) be bf bg bh bi a3 bj bk a7 a8 a9 ba bb a6 bc bd) else (isoglosslaw06_few.j1 k x4 false be bf bg bh bi a3 bj bk a7 a8 a9 ba bb a6 bc bd)
def isoglosslaw06_few.j1 : Nat → Int → Bool → ByteArray → List ByteArray → ByteArray → ByteArray → List ByteArray → List (S40) → List ByteArray → ByteArray → ByteArray → List ByteArray → ByteArray → ByteArray → List ByteArray → List (S40) → List ByteArray → ByteArray → Option (ByteArray × List ByteArray × ByteArray × ByteArray × List ByteArray × (List (S40)) × List ByteArray × ByteArray)
 | 0, _, _, _, _, _, _, _, _, _, _, _, _, _, _, _, _, _, _ => none
 | k + 1, x4, x35, be, bf, bg, bh, bi, a3, bj, bk, a7, a8, a9, ba, bb, a6, bc, bd => if x35 = true then (if 0 ≤ x4 then (if x4 < (a3.length : Int) then ((isoglosslaw06_short.f ((rd_T40 a3 x4).f0)).bind fun br => ((isoglosslaw06_row.f k ((rd_T40 a3 x4).f1)).bind fun bo => (if a6.length < 3518437208883 then (isoglosslaw06_few.l0 k (wrap64 (x4 + 1)) be bf bg bh bi a3 bj bk a7 a8 a9 ba bb (a6 ++ [(⟨br, bo⟩ : S40)]) bc bd) else (none)))) else (none)) else (none)) else (some (a7, a8, a9, ba, bb, a6, bc, bd))
end
def isoglosslaw06_few.f (k : Nat) (ak : ByteArray) (ah : List ByteArray) (al : ByteArray) (am : ByteArray) (ai : List ByteArray) (ag : List (S40)) (aj : List ByteArray) (ao : ByteArray) : Option (ByteArray × List ByteArray × ByteArray × ByteArray × List ByteArray × (List (S40)) × List ByteArray × ByteArray) := (isoglosslaw06_short.f ak).bind fun aK => ((isoglosslaw06_short.f al).bind fun aQ => ((isoglosslaw06_short.f am).bind fun aU => ((isoglosslaw06_short.f ao).bind fun aY => ((isoglosslaw06_row.f k ah).bind fun aE => ((isoglosslaw06_row.f k ai).bind fun aM => ((isoglosslaw06_row.f k aj).bind fun aT => (isoglosslaw06_few.l0 k 0 ak ah al am ai ag aj ao aK aE aQ aU aM ([] : List (S40)) aT aY)))))))
def isoglosslaw06_few.T1 : Bool × List (List Nat × List Nat) := (true, [([], []), ([0], [0]), ([1], [1]), ([], []), ([3], [3]), ([4, 2], [4]), ([], []), ([6], [6]), ([7, 5], [7]), ([], []), ([9], [9]), ([10, 8], [10]), ([], []), ([12], [12]), ([13, 11], [13]), ([], []), ([15], [15]), ([16, 14], [16]), ([], []), ([18], [18]), ([19, 17], [19]), ([2, 5, 8, 11, 14, 17, 20], [2, 5, 8, 11, 14, 17, 20]), ([], []), ([22, 21, 20, 0, 1, 2, 3, 4, 5, 6, 7, 8, 9, 10, 11, 12, 13, 14, 15, 16, 17, 18, 19, 20, 21, 22], [21, 22])])
def isoglosslaw06_few.B1 : List Nat := [0, 1, 3, 0, 8, 31, 0, 64, 255, 0, 512, 2047, 0, 4096, 16383, 0, 32768, 131071, 0, 262144, 1048575, 2097151, 0, 8388607]
theorem isoglosslaw06_few.tab1 : rtab .any (opsOf Tryz.f6 1) = isoglosslaw06_few.T1 := by kernel_rfl
theorem isoglosslaw06_few.bits1 : waitsOk isoglosslaw06_few.T1.2 isoglosslaw06_few.B1 = true := by kernel_rfl
def isoglosslaw06_few.T5 : Bool × List (List Nat × List Nat) := (true, [([], []), ([0], [0]), ([], []), ([2], [2]), ([], []), ([3, 4], [3, 4]), ([5], [5]), ([6], [6]), ([7], [7]), ([], []), ([9], [9]), ([], []), ([10, 11], [10, 11]), ([12], [12]), ([13], [13]), ([14, 8], [14]), ([8, 15], [8, 15]), ([16], [16]), ([1, 17, 15], [1, 17]), ([0, 1, 2, 3, 4, 5, 6, 7, 8, 9, 10, 11, 12, 13, 14, 15, 16, 17, 18], []), ([19, 18, 18, 0, 1, 2, 3, 4, 5, 6, 7, 8, 9, 10, 11, 12, 13, 14, 15, 16, 17, 18], [18, 19])])
def isoglosslaw06_few.B5 : List Nat := [0, 1, 0, 4, 0, 28, 60, 124, 252, 0, 512, 0, 3584, 7680, 15872, 32764, 65532, 131068, 262143, 524287, 1048575]
theorem isoglosslaw06_few.tab5 : rtab .any (opsOf Tryz.f6 5) = isoglosslaw06_few.T5 := by kernel_rfl
theorem isoglosslaw06_few.bits5 : waitsOk isoglosslaw06_few.T5.2 isoglosslaw06_few.B5 = true := by kernel_rfl
set_option maxHeartbeats 8000000 in
set_option maxRecDepth 100000 in
theorem isoglosslaw06_few.calls (k : Nat) (ak : ByteArray) (aq : Option Addr) (ar : Nat) (ah : List ByteArray) (al : ByteArray) (am : ByteArray) (au : Option Addr) (av : Nat) (ai : List ByteArray) (aA : Option Addr) (az : Nat) (ag : List (S40)) (aw : Option Addr) (ax : Nat) (aj : List ByteArray) (ao : ByteArray) (r1 : ByteArray) (r2 : List ByteArray) (r3 : ByteArray) (r4 : ByteArray) (r5 : List ByteArray) (r6 : List (S40)) (r7 : List ByteArray) (r8 : ByteArray) (w : World) (hr0_1 : Kd.C Kd.string w aq ah.length ah) (hc0_1 : ah.length ≤ ar) (hr0_4 : Kd.C Kd.string w au ai.length ai) (hc0_4 : ai.length ≤ av) (hr0_5 : Kd.C k40 w aA ag.length ag) (hc0_5 : ag.length ≤ az) (hr0_6 : Kd.C Kd.string w aw aj.length aj) (hc0_6 : aj.length ≤ ax) (h : isoglosslaw06_few.f k ak ah al am ai ag aj ao = some (r1, r2, r3, r4, r5, r6, r7, r8)) :
  Calls Tryz.prog 6 #[.agg #[.string ak, .slice aq ah.length ar, .string al, .string am, .slice au ai.length av, .slice aA ag.length az, .slice aw aj.length ax, .string ao]] w fun e w' => ∃ v1_ v4_ v5_ v6_ : Value, e = .returned (.agg #[.string r1, v1_, .string r3, .string r4, v4_, v5_, v6_, .string r8]) ∧ Kd.R Kd.string 9 w' w.heap.size (fun k_ => some k_ ≠ (v4_ : Value).ownBlock ∧ some k_ ≠ (v6_ : Value).ownBlock) v1_ r2 ∧ Kd.R Kd.string 9 w' w.heap.size (fun k_ => some k_ ≠ (v1_ : Value).ownBlock ∧ some k_ ≠ (v6_ : Value).ownBlock) v4_ r5 ∧ Kd.S k40 40 w' w.heap.size (fun k_ => some k_ ≠ (v1_ : Value).ownBlock ∧ some k_ ≠ (v4_ : Value).ownBlock ∧ some k_ ≠ (v6_ : Value).ownBlock) v5_ r6 ∧ Kd.R Kd.string 9 w' w.heap.size (fun k_ => some k_ ≠ (v1_ : Value).ownBlock ∧ some k_ ≠ (v4_ : Value).ownBlock) v6_ r7 ∧ Below w.heap.size w w' := by
 have hu25 := Tryz.underlying25
 have hu40 := Tryz.underlying40
 have bC := Aside0.mk hr0_1
 have bD := Aside0.mk hc0_1
 clear hr0_1 hc0_1
 have bE := Aside0.mk hr0_4
 have bF := Aside0.mk hc0_4
 clear hr0_4 hc0_4
 have bG := Aside0.mk hr0_5
 have cV := Aside0.mk hc0_5
 clear hr0_5 hc0_5
 have bH := Aside0.mk hr0_6
 have bI := Aside0.mk hc0_6
 clear hr0_6 hc0_6
 have HB := Aside0.mk (Below.refl w.heap.size w)
 have H := h; unfold isoglosslaw06_few.f at H
 clear h
 replace H := Option.bind_eq_some_iff.mp H
 obtain ⟨aK, cW, H⟩ := H
 try dsimp only at H
 have A2 := Aside0.mk cW
 clear cW
 replace H := Option.bind_eq_some_iff.mp H
 obtain ⟨aQ, cX, H⟩ := H
 try dsimp only at H
 have A3 := Aside0.mk cX
 clear cX
 replace H := Option.bind_eq_some_iff.mp H
 obtain ⟨aU, cY, H⟩ := H
 try dsimp only at H
 have A4 := Aside0.mk cY
 clear cY
 replace H := Option.bind_eq_some_iff.mp H
 obtain ⟨aY, cZ, H⟩ := H
 try dsimp only at H
 have A5 := Aside0.mk cZ
 clear cZ
 replace H := Option.bind_eq_some_iff.mp H
 obtain ⟨aE, c0, H⟩ := H
 try dsimp only at H
 have A6 := Aside0.mk c0
 clear c0
 replace H := Option.bind_eq_some_iff.mp H
 obtain ⟨aM, c1, H⟩ := H
 try dsimp only at H
 have A7 := Aside0.mk c1
 clear c1
 replace H := Option.bind_eq_some_iff.mp H
 obtain ⟨aT, da, H⟩ := H
 try dsimp only at H
 have A8 := Aside0.mk da
 clear da
 have H' := Aside0.mk H
 clear H
 go_enter Tryz.func6, Tryz.ntmps6
 try go_wp2_with (first | ((with_reducible refine gate_dst (N := 1) rfl ?_); refine box_event ?hg (N := 1) ?hd (cs := #[.string ak, .slice aq ah.length ar, .string al, .string am, .slice au ai.length av, .slice aA ag.length az, .slice aw aj.length ax, .string ao]) (t := 25) ?hr ?_; (case hd => rfl); (case hg => rfl); (case hr => first | (go_simp; done) | (go_simp; rfl)); intro aa hg w9 hbox hb; have aH := Aside0.mk (wT_ (Qw HB.out) hb); have aI := Aside0.mk (hbox); have aJ := Aside0.mk ((by rw [hg]; exact (wZ_ (Qw HB.out)) : w.heap.size ≤ aa)); have aR := Aside0.mk ((by rw [hg]; exact (wZ_ (Qw HB.out)) : w.heap.size ≤ aa)); clear HB; have HB := aH; have ac := aI; have GW119 := aJ; have ap := aR; clear aH aI aJ aR; clear hb hbox hg) | ((with_reducible refine gate_dst (N := 2) rfl ?_); refine box_event ?hg (N := 2) ?hd (cs := #[.string (⟨#[]⟩ : ByteArray), .slice none 0 0, .string (⟨#[]⟩ : ByteArray), .string (⟨#[]⟩ : ByteArray), .slice none 0 0, .slice none 0 0, .slice none 0 0, .string (⟨#[]⟩ : ByteArray)]) (t := 25) ?hr ?_; (case hd => rfl); (case hg => rfl); (case hr => first | (go_simp; done) | (go_simp; rfl)); intro ad hg w10 hbox hb; have aH := Aside0.mk (blk_below (g := aa) (o := .cells #[.string ak, .slice aq ah.length ar, .string al, .string am, .slice au ai.length av, .slice aA ag.length az, .slice aw aj.length ax, .string ao] 25 (0, 0)) (Qb ac.out) hb); have aI := Aside0.mk (wT_ (Qv HB.out ap.out) hb); have aJ := Aside0.mk (hbox); have aR := Aside0.mk ((by rw [hg]; exact (wZ_ (Qv HB.out ap.out)) : w.heap.size ≤ ad)); have aV := Aside0.mk ((by rw [hg]; exact (wZ_ (Qv HB.out ap.out)) : w.heap.size ≤ ad)); have aW := Aside0.mk ((by rw [hg]; exact Nat.ne_of_lt (blk_lt (g := aa) (o := .cells #[.string ak, .slice aq ah.length ar, .string al, .string am, .slice au ai.length av, .slice aA ag.length az, .slice aw aj.length ax, .string ao] 25 (0, 0)) (Qb ac.out)) : aa ≠ ad)); have aZ := Aside0.mk ((by rw [hg]; exact Nat.ne_of_gt (blk_lt (g := aa) (o := .cells #[.string ak, .slice aq ah.length ar, .string al, .string am, .slice au ai.length av, .slice aA ag.length az, .slice aw aj.length ax, .string ao] 25 (0, 0)) (Qb ac.out)) : ad ≠ aa)); clear ac; clear HB; have ac := aH; have HB := aI; have ae := aJ; have GW120 := aR; have ay := aV; have NB119_120 := aW; have NB120_119 := aZ; clear aH aI aJ aR aV aW aZ; clear hb hbox hg))
 have aH := Aside0.mk (bD_ ac.out)
 have aI := Aside0.mk (bD_ ae.out)
 have aJ := Aside0.mk (wD_ HB.out)
 clear ac ae HB
 have ac := aH; have ae := aI; have HB := aJ
 clear aH aI aJ
 refine start_ (n := 24) (S := fun w' => w'.cell? ⟨aa, 0, none⟩ = some (.string ak) ∧ w'.cell? ⟨aa, 1, none⟩ = some (.slice aq ah.length ar) ∧ w'.cell? ⟨aa, 2, none⟩ = some (.string al) ∧ w'.cell? ⟨aa, 3, none⟩ = some (.string am) ∧ w'.cell? ⟨aa, 4, none⟩ = some (.slice au ai.length av) ∧ w'.cell? ⟨aa, 5, none⟩ = some (.slice aA ag.length az) ∧ w'.cell? ⟨aa, 6, none⟩ = some (.slice aw aj.length ax) ∧ w'.cell? ⟨aa, 7, none⟩ = some (.string ao)) (ds := []) #[false, false, false, false, false, false, false, false, false, false, false, false, false, false, false, false, false, false, false, false, false, false, false, false] (by kernel_rfl) rfl rfl (C8_ ac.out) (fun hHeld => ?_); refine with_tabW isoglosslaw06_few.tab1 isoglosslaw06_few.bits1 (fun HT_ HW_ => ?_)
 generalize w10.drew = w11 at ac ae HB hHeld ⊢
 refine pu_ (i := 0) (N := some 5) HT_ (bl_ 24 1) ?_
 refine pu_ (i := 3) (N := some 8) HT_ (bl_ 24 9) ?_
 refine pu_ (i := 6) (N := some 11) HT_ (bl_ 24 73) ?_
 refine pu_ (i := 9) (N := some 14) HT_ (bl_ 24 585) ?_
 refine pu_ (i := 12) (N := some 17) HT_ (bl_ 24 4681) ?_
 refine pu_ (i := 15) (N := some 20) HT_ (bl_ 24 37449) ?_
 refine pu_ (i := 18) (N := some 23) HT_ (bl_ 24 299593) ?_
 refine tk_ (i := 1) (N := some 6) HT_ HW_ (bl_ 24 299595) hHeld ?_ (hy := by rintro w' ⟨s0, s1, s2, s3, s4, s5, s6, s7⟩; go_simp; with_reducible rfl)
 refine tk_ (i := 4) (N := some 9) HT_ HW_ (bl_ 24 299611) hHeld ?_ (hy := by rintro w' ⟨s0, s1, s2, s3, s4, s5, s6, s7⟩; go_simp; with_reducible rfl)
 refine tk_ (i := 7) (N := some 12) HT_ HW_ (bl_ 24 299739) hHeld ?_ (hy := by rintro w' ⟨s0, s1, s2, s3, s4, s5, s6, s7⟩; go_simp; with_reducible rfl)
 refine tk_ (i := 10) (N := some 15) HT_ HW_ (bl_ 24 300763) hHeld ?_ (hy := by rintro w' ⟨s0, s1, s2, s3, s4, s5, s6, s7⟩; go_simp; with_reducible rfl)
 refine tk_ (i := 13) (N := some 18) HT_ HW_ (bl_ 24 308955) hHeld ?_ (hy := by rintro w' ⟨s0, s1, s2, s3, s4, s5, s6, s7⟩; go_simp; with_reducible rfl)
 refine tk_ (i := 16) (N := some 21) HT_ HW_ (bl_ 24 374491) hHeld ?_ (hy := by rintro w' ⟨s0, s1, s2, s3, s4, s5, s6, s7⟩; go_simp; with_reducible rfl)
 refine tk_ (i := 19) (N := some 24) HT_ HW_ (bl_ 24 898779) hHeld ?_ (hy := by rintro w' ⟨s0, s1, s2, s3, s4, s5, s6, s7⟩; go_simp; with_reducible rfl)
 refine join_ (σ := Value × Value × Value × Nat) 1 #[true, true, true, true, true, true, true, true, true, true, true, true, true, true, true, true, true, true, true, true, true, true, true, false] (fun s_ => [(7, .string aK), (10, .string aQ), (13, .string aU), (16, .string aY), (19, s_.1), (22, s_.2.1), (25, s_.2.2.1), (3, .pointer (some ⟨s_.2.2.2, 0, none⟩)), (26, .agg #[.string aK, s_.1, .string aQ, .string aU, s_.2.1, .slice none 0 0, s_.2.2.1, .string aY])]) (fun s_ w' => (w'.cell? ⟨aa, 0, none⟩ = some (.string ak) ∧ w'.cell? ⟨aa, 1, none⟩ = some (.slice aq ah.length ar) ∧ w'.cell? ⟨aa, 2, none⟩ = some (.string al) ∧ w'.cell? ⟨aa, 3, none⟩ = some (.string am) ∧ w'.cell? ⟨aa, 4, none⟩ = some (.slice au ai.length av) ∧ w'.cell? ⟨aa, 5, none⟩ = some (.slice aA ag.length az) ∧ w'.cell? ⟨aa, 6, none⟩ = some (.slice aw aj.length ax) ∧ w'.cell? ⟨aa, 7, none⟩ = some (.string ao)) ∧ (Kd.R Kd.string 9 w' w.heap.size (fun k_ => some k_ ≠ (s_.2.1 : Value).ownBlock ∧ some k_ ≠ (s_.2.2.1 : Value).ownBlock) s_.1 aE) ∧ (Kd.R Kd.string 9 w' w.heap.size (fun k_ => some k_ ≠ (s_.1 : Value).ownBlock ∧ some k_ ≠ (s_.2.2.1 : Value).ownBlock) s_.2.1 aM) ∧ (Kd.R Kd.string 9 w' w.heap.size (fun k_ => some k_ ≠ (s_.1 : Value).ownBlock ∧ some k_ ≠ (s_.2.1 : Value).ownBlock) s_.2.2.1 aT) ∧ (w'.heap[aa]? = some (.cells #[.string ak, .slice aq ah.length ar, .string al, .string am, .slice au ai.length av, .slice aA ag.length az, .slice aw aj.length ax, .string ao] 25 (0, 0))) ∧ (w'.heap[ad]? = some (.cells #[.string (⟨#[]⟩ : ByteArray), .slice none 0 0, .string (⟨#[]⟩ : ByteArray), .string (⟨#[]⟩ : ByteArray), .slice none 0 0, .slice none 0 0, .slice none 0 0, .string (⟨#[]⟩ : ByteArray)] 25 (0, 0))) ∧ (w'.heap[s_.2.2.2]? = some (.cells #[.string (⟨#[]⟩ : ByteArray), .slice none 0 0, .string (⟨#[]⟩ : ByteArray), .string (⟨#[]⟩ : ByteArray), .slice none 0 0, .slice none 0 0, .slice none 0 0, .string (⟨#[]⟩ : ByteArray)] 25 (0, 0))) ∧ (w.heap.size ≤ s_.2.2.2) ∧ (w.heap.size ≤ s_.2.2.2) ∧ (aa ≠ s_.2.2.2) ∧ (s_.2.2.2 ≠ aa) ∧ (ad ≠ s_.2.2.2) ∧ (s_.2.2.2 ≠ ad) ∧ (Below w.heap.size w w')) ?_ ?_
 rotate_left
 ·intro hJ2_5_8_11_14_17_20_22
  refine join_ (σ := Value × Value × Value) 2 #[true, true, true, true, true, true, true, true, true, true, true, true, true, true, true, true, true, true, true, true, true, true, false, false] (fun s_ => [(7, .string aK), (10, .string aQ), (13, .string aU), (16, .string aY), (19, s_.1), (22, s_.2.1), (25, s_.2.2), (26, .agg #[.string aK, s_.1, .string aQ, .string aU, s_.2.1, .slice none 0 0, s_.2.2, .string aY])]) (fun s_ w' => (w'.cell? ⟨aa, 0, none⟩ = some (.string ak) ∧ w'.cell? ⟨aa, 1, none⟩ = some (.slice aq ah.length ar) ∧ w'.cell? ⟨aa, 2, none⟩ = some (.string al) ∧ w'.cell? ⟨aa, 3, none⟩ = some (.string am) ∧ w'.cell? ⟨aa, 4, none⟩ = some (.slice au ai.length av) ∧ w'.cell? ⟨aa, 5, none⟩ = some (.slice aA ag.length az) ∧ w'.cell? ⟨aa, 6, none⟩ = some (.slice aw aj.length ax) ∧ w'.cell? ⟨aa, 7, none⟩ = some (.string ao)) ∧ (Kd.R Kd.string 9 w' w.heap.size (fun k_ => some k_ ≠ (s_.2.1 : Value).ownBlock ∧ some k_ ≠ (s_.2.2 : Value).ownBlock) s_.1 aE) ∧ (Kd.R Kd.string 9 w' w.heap.size (fun k_ => some k_ ≠ (s_.1 : Value).ownBlock ∧ some k_ ≠ (s_.2.2 : Value).ownBlock) s_.2.1 aM) ∧ (Kd.R Kd.string 9 w' w.heap.size (fun k_ => some k_ ≠ (s_.1 : Value).ownBlock ∧ some k_ ≠ (s_.2.1 : Value).ownBlock) s_.2.2 aT) ∧ (w'.heap[aa]? = some (.cells #[.string ak, .slice aq ah.length ar, .string al, .string am, .slice au ai.length av, .slice aA ag.length az, .slice aw aj.length ax, .string ao] 25 (0, 0))) ∧ (w'.heap[ad]? = some (.cells #[.string (⟨#[]⟩ : ByteArray), .slice none 0 0, .string (⟨#[]⟩ : ByteArray), .string (⟨#[]⟩ : ByteArray), .slice none 0 0, .slice none 0 0, .slice none 0 0, .string (⟨#[]⟩ : ByteArray)] 25 (0, 0))) ∧ (Below w.heap.size w w')) ?_ ?_
  rotate_left
  ·intro hJ2_5_8_11_14_17_20
   refine join_ (σ := Value × Value × Nat) 3 #[true, true, true, true, true, true, true, true, true, true, true, true, true, true, true, true, true, true, true, true, false, false, true, false] (fun s_ => [(7, .string aK), (10, .string aQ), (13, .string aU), (16, .string aY), (19, s_.1), (22, s_.2.1), (3, .pointer (some ⟨s_.2.2, 0, none⟩))]) (fun s_ w' => (w'.cell? ⟨aa, 0, none⟩ = some (.string ak) ∧ w'.cell? ⟨aa, 1, none⟩ = some (.slice aq ah.length ar) ∧ w'.cell? ⟨aa, 2, none⟩ = some (.string al) ∧ w'.cell? ⟨aa, 3, none⟩ = some (.string am) ∧ w'.cell? ⟨aa, 4, none⟩ = some (.slice au ai.length av) ∧ w'.cell? ⟨aa, 5, none⟩ = some (.slice aA ag.length az) ∧ w'.cell? ⟨aa, 6, none⟩ = some (.slice aw aj.length ax) ∧ w'.cell? ⟨aa, 7, none⟩ = some (.string ao)) ∧ (Kd.R Kd.string 9 w' w.heap.size (fun k_ => some k_ ≠ (s_.2.1 : Value).ownBlock) s_.1 aE) ∧ (Kd.R Kd.string 9 w' w.heap.size (fun k_ => some k_ ≠ (s_.1 : Value).ownBlock) s_.2.1 aM) ∧ (w'.heap[aa]? = some (.cells #[.string ak, .slice aq ah.length ar, .string al, .string am, .slice au ai.length av, .slice aA ag.length az, .slice aw aj.length ax, .string ao] 25 (0, 0))) ∧ (w'.heap[ad]? = some (.cells #[.string (⟨#[]⟩ : ByteArray), .slice none 0 0, .string (⟨#[]⟩ : ByteArray), .string (⟨#[]⟩ : ByteArray), .slice none 0 0, .slice none 0 0, .slice none 0 0, .string (⟨#[]⟩ : ByteArray)] 25 (0, 0))) ∧ (w'.heap[s_.2.2]? = some (.cells #[.string (⟨#[]⟩ : ByteArray), .slice none 0 0, .string (⟨#[]⟩ : ByteArray), .string (⟨#[]⟩ : ByteArray), .slice none 0 0, .slice none 0 0, .slice none 0 0, .string (⟨#[]⟩ : ByteArray)] 25 (0, 0))) ∧ (w.heap.size ≤ s_.2.2) ∧ (w.heap.size ≤ s_.2.2) ∧ (aa ≠ s_.2.2) ∧ (s_.2.2 ≠ aa) ∧ (ad ≠ s_.2.2) ∧ (s_.2.2 ≠ ad) ∧ (Below w.heap.size w w')) ?_ ?_
   rotate_left
   ·intro hJ2_5_8_11_14_17_22
    refine join_ (σ := Value × Value) 4 #[true, true, true, true, true, true, true, true, true, true, true, true, true, true, true, true, true, true, true, true, false, false, false, false] (fun s_ => [(7, .string aK), (10, .string aQ), (13, .string aU), (16, .string aY), (19, s_.1), (22, s_.2)]) (fun s_ w' => (w'.cell? ⟨aa, 0, none⟩ = some (.string ak) ∧ w'.cell? ⟨aa, 1, none⟩ = some (.slice aq ah.length ar) ∧ w'.cell? ⟨aa, 2, none⟩ = some (.string al) ∧ w'.cell? ⟨aa, 3, none⟩ = some (.string am) ∧ w'.cell? ⟨aa, 4, none⟩ = some (.slice au ai.length av) ∧ w'.cell? ⟨aa, 5, none⟩ = some (.slice aA ag.length az) ∧ w'.cell? ⟨aa, 6, none⟩ = some (.slice aw aj.length ax) ∧ w'.cell? ⟨aa, 7, none⟩ = some (.string ao)) ∧ (Kd.R Kd.string 9 w' w.heap.size (fun k_ => some k_ ≠ (s_.2 : Value).ownBlock) s_.1 aE) ∧ (Kd.R Kd.string 9 w' w.heap.size (fun k_ => some k_ ≠ (s_.1 : Value).ownBlock) s_.2 aM) ∧ (w'.heap[aa]? = some (.cells #[.string ak, .slice aq ah.length ar, .string al, .string am, .slice au ai.length av, .slice aA ag.length az, .slice aw aj.length ax, .string ao] 25 (0, 0))) ∧ (w'.heap[ad]? = some (.cells #[.string (⟨#[]⟩ : ByteArray), .slice none 0 0, .string (⟨#[]⟩ : ByteArray), .string (⟨#[]⟩ : ByteArray), .slice none 0 0, .slice none 0 0, .slice none 0 0, .string (⟨#[]⟩ : ByteArray)] 25 (0, 0))) ∧ (Below w.heap.size w w')) ?_ ?_
    rotate_left
    ·intro hJ2_5_8_11_14_17
     refine join_ (σ := Value × Nat) 4 #[true, true, true, true, true, true, true, true, true, true, true, true, true, true, true, true, true, false, true, true, false, false, true, false] (fun s_ => [(7, .string aK), (10, .string aQ), (13, .string aU), (16, .string aY), (19, s_.1), (3, .pointer (some ⟨s_.2, 0, none⟩))]) (fun s_ w' => (w'.cell? ⟨aa, 0, none⟩ = some (.string ak) ∧ w'.cell? ⟨aa, 1, none⟩ = some (.slice aq ah.length ar) ∧ w'.cell? ⟨aa, 2, none⟩ = some (.string al) ∧ w'.cell? ⟨aa, 3, none⟩ = some (.string am) ∧ w'.cell? ⟨aa, 4, none⟩ = some (.slice au ai.length av) ∧ w'.cell? ⟨aa, 5, none⟩ = some (.slice aA ag.length az) ∧ w'.cell? ⟨aa, 6, none⟩ = some (.slice aw aj.length ax) ∧ w'.cell? ⟨aa, 7, none⟩ = some (.string ao)) ∧ (Kd.R Kd.string 9 w' w.heap.size (fun _ => True) s_.1 aE) ∧ (w'.heap[aa]? = some (.cells #[.string ak, .slice aq ah.length ar, .string al, .string am, .slice au ai.length av, .slice aA ag.length az, .slice aw aj.length ax, .string ao] 25 (0, 0))) ∧ (w'.heap[ad]? = some (.cells #[.string (⟨#[]⟩ : ByteArray), .slice none 0 0, .string (⟨#[]⟩ : ByteArray), .string (⟨#[]⟩ : ByteArray), .slice none 0 0, .slice none 0 0, .slice none 0 0, .string (⟨#[]⟩ : ByteArray)] 25 (0, 0))) ∧ (w'.heap[s_.2]? = some (.cells #[.string (⟨#[]⟩ : ByteArray), .slice none 0 0, .string (⟨#[]⟩ : ByteArray), .string (⟨#[]⟩ : ByteArray), .slice none 0 0, .slice none 0 0, .slice none 0 0, .string (⟨#[]⟩ : ByteArray)] 25 (0, 0))) ∧ (w.heap.size ≤ s_.2) ∧ (w.heap.size ≤ s_.2) ∧ (aa ≠ s_.2) ∧ (s_.2 ≠ aa) ∧ (ad ≠ s_.2) ∧ (s_.2 ≠ ad) ∧ (Below w.heap.size w w')) ?_ ?_
     rotate_left
     ·intro hJ2_5_8_11_14_22
      refine join_ (σ := Value) 5 #[true, true, true, true, true, true, true, true, true, true, true, true, true, true, true, true, true, false, true, true, false, false, false, false] (fun s_ => [(7, .string aK), (10, .string aQ), (13, .string aU), (16, .string aY), (19, s_)]) (fun s_ w' => (w'.cell? ⟨aa, 0, none⟩ = some (.string ak) ∧ w'.cell? ⟨aa, 1, none⟩ = some (.slice aq ah.length ar) ∧ w'.cell? ⟨aa, 2, none⟩ = some (.string al) ∧ w'.cell? ⟨aa, 3, none⟩ = some (.string am) ∧ w'.cell? ⟨aa, 4, none⟩ = some (.slice au ai.length av) ∧ w'.cell? ⟨aa, 5, none⟩ = some (.slice aA ag.length az) ∧ w'.cell? ⟨aa, 6, none⟩ = some (.slice aw aj.length ax) ∧ w'.cell? ⟨aa, 7, none⟩ = some (.string ao)) ∧ (Kd.R Kd.string 9 w' w.heap.size (fun _ => True) s_ aE) ∧ (w'.heap[aa]? = some (.cells #[.string ak, .slice aq ah.length ar, .string al, .string am, .slice au ai.length av, .slice aA ag.length az, .slice aw aj.length ax, .string ao] 25 (0, 0))) ∧ (w'.heap[ad]? = some (.cells #[.string (⟨#[]⟩ : ByteArray), .slice none 0 0, .string (⟨#[]⟩ : ByteArray), .string (⟨#[]⟩ : ByteArray), .slice none 0 0, .slice none 0 0, .slice none 0 0, .string (⟨#[]⟩ : ByteArray)] 25 (0, 0))) ∧ (Below w.heap.size w w')) ?_ ?_
      rotate_left
      ·intro hJ2_5_8_11_14
       refine join_ (σ := Nat) 5 #[true, true, true, true, true, true, true, true, true, true, true, true, true, true, false, true, true, false, true, true, false, false, true, false] (fun s_ => [(7, .string aK), (10, .string aQ), (13, .string aU), (16, .string aY), (3, .pointer (some ⟨s_, 0, none⟩))]) (fun s_ w' => (w'.cell? ⟨aa, 0, none⟩ = some (.string ak) ∧ w'.cell? ⟨aa, 1, none⟩ = some (.slice aq ah.length ar) ∧ w'.cell? ⟨aa, 2, none⟩ = some (.string al) ∧ w'.cell? ⟨aa, 3, none⟩ = some (.string am) ∧ w'.cell? ⟨aa, 4, none⟩ = some (.slice au ai.length av) ∧ w'.cell? ⟨aa, 5, none⟩ = some (.slice aA ag.length az) ∧ w'.cell? ⟨aa, 6, none⟩ = some (.slice aw aj.length ax) ∧ w'.cell? ⟨aa, 7, none⟩ = some (.string ao)) ∧ (w'.heap[aa]? = some (.cells #[.string ak, .slice aq ah.length ar, .string al, .string am, .slice au ai.length av, .slice aA ag.length az, .slice aw aj.length ax, .string ao] 25 (0, 0))) ∧ (w'.heap[ad]? = some (.cells #[.string (⟨#[]⟩ : ByteArray), .slice none 0 0, .string (⟨#[]⟩ : ByteArray), .string (⟨#[]⟩ : ByteArray), .slice none 0 0, .slice none 0 0, .slice none 0 0, .string (⟨#[]⟩ : ByteArray)] 25 (0, 0))) ∧ (w'.heap[s_]? = some (.cells #[.string (⟨#[]⟩ : ByteArray), .slice none 0 0, .string (⟨#[]⟩ : ByteArray), .string (⟨#[]⟩ : ByteArray), .slice none 0 0, .slice none 0 0, .slice none 0 0, .string (⟨#[]⟩ : ByteArray)] 25 (0, 0))) ∧ (w.heap.size ≤ s_) ∧ (w.heap.size ≤ s_) ∧ (aa ≠ s_) ∧ (s_ ≠ aa) ∧ (ad ≠ s_) ∧ (s_ ≠ ad) ∧ (Below w.heap.size w w')) ?_ ?_
       rotate_left
       ·intro hJ2_5_8_11_22
        refine join_ (σ := Unit) 6 #[true, true, true, true, true, true, true, true, true, true, true, true, true, true, false, true, true, false, true, true, false, false, false, false] (fun s_ => [(7, .string aK), (10, .string aQ), (13, .string aU), (16, .string aY)]) (fun s_ w' => (w'.cell? ⟨aa, 0, none⟩ = some (.string ak) ∧ w'.cell? ⟨aa, 1, none⟩ = some (.slice aq ah.length ar) ∧ w'.cell? ⟨aa, 2, none⟩ = some (.string al) ∧ w'.cell? ⟨aa, 3, none⟩ = some (.string am) ∧ w'.cell? ⟨aa, 4, none⟩ = some (.slice au ai.length av) ∧ w'.cell? ⟨aa, 5, none⟩ = some (.slice aA ag.length az) ∧ w'.cell? ⟨aa, 6, none⟩ = some (.slice aw aj.length ax) ∧ w'.cell? ⟨aa, 7, none⟩ = some (.string ao)) ∧ (w'.heap[aa]? = some (.cells #[.string ak, .slice aq ah.length ar, .string al, .string am, .slice au ai.length av, .slice aA ag.length az, .slice aw aj.length ax, .string ao] 25 (0, 0))) ∧ (w'.heap[ad]? = some (.cells #[.string (⟨#[]⟩ : ByteArray), .slice none 0 0, .string (⟨#[]⟩ : ByteArray), .string (⟨#[]⟩ : ByteArray), .slice none 0 0, .slice none 0 0, .slice none 0 0, .string (⟨#[]⟩ : ByteArray)] 25 (0, 0))) ∧ (Below w.heap.size w w')) ?_ ?_
        rotate_left
        ·intro hJ2_5_8_11
         refine join_ (σ := Nat) 6 #[true, true, true, true, true, true, true, true, true, true, true, false, true, true, false, true, true, false, true, true, false, false, true, false] (fun s_ => [(7, .string aK), (10, .string aQ), (13, .string aU), (3, .pointer (some ⟨s_, 0, none⟩))]) (fun s_ w' => (w'.cell? ⟨aa, 0, none⟩ = some (.string ak) ∧ w'.cell? ⟨aa, 1, none⟩ = some (.slice aq ah.length ar) ∧ w'.cell? ⟨aa, 2, none⟩ = some (.string al) ∧ w'.cell? ⟨aa, 3, none⟩ = some (.string am) ∧ w'.cell? ⟨aa, 4, none⟩ = some (.slice au ai.length av) ∧ w'.cell? ⟨aa, 5, none⟩ = some (.slice aA ag.length az) ∧ w'.cell? ⟨aa, 6, none⟩ = some (.slice aw aj.length ax) ∧ w'.cell? ⟨aa, 7, none⟩ = some (.string ao)) ∧ (w'.heap[aa]? = some (.cells #[.string ak, .slice aq ah.length ar, .string al, .string am, .slice au ai.length av, .slice aA ag.length az, .slice aw aj.length ax, .string ao] 25 (0, 0))) ∧ (w'.heap[ad]? = some (.cells #[.string (⟨#[]⟩ : ByteArray), .slice none 0 0, .string (⟨#[]⟩ : ByteArray), .string (⟨#[]⟩ : ByteArray), .slice none 0 0, .slice none 0 0, .slice none 0 0, .string (⟨#[]⟩ : ByteArray)] 25 (0, 0))) ∧ (w'.heap[s_]? = some (.cells #[.string (⟨#[]⟩ : ByteArray), .slice none 0 0, .string (⟨#[]⟩ : ByteArray), .string (⟨#[]⟩ : ByteArray), .slice none 0 0, .slice none 0 0, .slice none 0 0, .string (⟨#[]⟩ : ByteArray)] 25 (0, 0))) ∧ (w.heap.size ≤ s_) ∧ (w.heap.size ≤ s_) ∧ (aa ≠ s_) ∧ (s_ ≠ aa) ∧ (ad ≠ s_) ∧ (s_ ≠ ad) ∧ (Below w.heap.size w w')) ?_ ?_
         rotate_left
         ·intro hJ2_5_8_22
          refine join_ (σ := Unit) 7 #[true, true, true, true, true, true, true, true, true, true, true, false, true, true, false, true, true, false, true, true, false, false, false, false] (fun s_ => [(7, .string aK), (10, .string aQ), (13, .string aU)]) (fun s_ w' => (w'.cell? ⟨aa, 0, none⟩ = some (.string ak) ∧ w'.cell? ⟨aa, 1, none⟩ = some (.slice aq ah.length ar) ∧ w'.cell? ⟨aa, 2, none⟩ = some (.string al) ∧ w'.cell? ⟨aa, 3, none⟩ = some (.string am) ∧ w'.cell? ⟨aa, 4, none⟩ = some (.slice au ai.length av) ∧ w'.cell? ⟨aa, 5, none⟩ = some (.slice aA ag.length az) ∧ w'.cell? ⟨aa, 6, none⟩ = some (.slice aw aj.length ax) ∧ w'.cell? ⟨aa, 7, none⟩ = some (.string ao)) ∧ (w'.heap[aa]? = some (.cells #[.string ak, .slice aq ah.length ar, .string al, .string am, .slice au ai.length av, .slice aA ag.length az, .slice aw aj.length ax, .string ao] 25 (0, 0))) ∧ (w'.heap[ad]? = some (.cells #[.string (⟨#[]⟩ : ByteArray), .slice none 0 0, .string (⟨#[]⟩ : ByteArray), .string (⟨#[]⟩ : ByteArray), .slice none 0 0, .slice none 0 0, .slice none 0 0, .string (⟨#[]⟩ : ByteArray)] 25 (0, 0))) ∧ (Below w.heap.size w w')) ?_ ?_
          rotate_left
          ·intro hJ2_5_8
           refine join_ (σ := Nat) 7 #[true, true, true, true, true, true, true, true, false, true, true, false, true, true, false, true, true, false, true, true, false, false, true, false] (fun s_ => [(7, .string aK), (10, .string aQ), (3, .pointer (some ⟨s_, 0, none⟩))]) (fun s_ w' => (w'.cell? ⟨aa, 0, none⟩ = some (.string ak) ∧ w'.cell? ⟨aa, 1, none⟩ = some (.slice aq ah.length ar) ∧ w'.cell? ⟨aa, 2, none⟩ = some (.string al) ∧ w'.cell? ⟨aa, 3, none⟩ = some (.string am) ∧ w'.cell? ⟨aa, 4, none⟩ = some (.slice au ai.length av) ∧ w'.cell? ⟨aa, 5, none⟩ = some (.slice aA ag.length az) ∧ w'.cell? ⟨aa, 6, none⟩ = some (.slice aw aj.length ax) ∧ w'.cell? ⟨aa, 7, none⟩ = some (.string ao)) ∧ (w'.heap[aa]? = some (.cells #[.string ak, .slice aq ah.length ar, .string al, .string am, .slice au ai.length av, .slice aA ag.length az, .slice aw aj.length ax, .string ao] 25 (0, 0))) ∧ (w'.heap[ad]? = some (.cells #[.string (⟨#[]⟩ : ByteArray), .slice none 0 0, .string (⟨#[]⟩ : ByteArray), .string (⟨#[]⟩ : ByteArray), .slice none 0 0, .slice none 0 0, .slice none 0 0, .string (⟨#[]⟩ : ByteArray)] 25 (0, 0))) ∧ (w'.heap[s_]? = some (.cells #[.string (⟨#[]⟩ : ByteArray), .slice none 0 0, .string (⟨#[]⟩ : ByteArray), .string (⟨#[]⟩ : ByteArray), .slice none 0 0, .slice none 0 0, .slice none 0 0, .string (⟨#[]⟩ : ByteArray)] 25 (0, 0))) ∧ (w.heap.size ≤ s_) ∧ (w.heap.size ≤ s_) ∧ (aa ≠ s_) ∧ (s_ ≠ aa) ∧ (ad ≠ s_) ∧ (s_ ≠ ad) ∧ (Below w.heap.size w w')) ?_ ?_
           rotate_left
           ·intro hJ2_5_22
            refine join_ (σ := Unit) 8 #[true, true, true, true, true, true, true, true, false, true, true, false, true, true, false, true, true, false, true, true, false, false, false, false] (fun s_ => [(7, .string aK), (10, .string aQ)]) (fun s_ w' => (w'.cell? ⟨aa, 0, none⟩ = some (.string ak) ∧ w'.cell? ⟨aa, 1, none⟩ = some (.slice aq ah.length ar) ∧ w'.cell? ⟨aa, 2, none⟩ = some (.string al) ∧ w'.cell? ⟨aa, 3, none⟩ = some (.string am) ∧ w'.cell? ⟨aa, 4, none⟩ = some (.slice au ai.length av) ∧ w'.cell? ⟨aa, 5, none⟩ = some (.slice aA ag.length az) ∧ w'.cell? ⟨aa, 6, none⟩ = some (.slice aw aj.length ax) ∧ w'.cell? ⟨aa, 7, none⟩ = some (.string ao)) ∧ (w'.heap[aa]? = some (.cells #[.string ak, .slice aq ah.length ar, .string al, .string am, .slice au ai.length av, .slice aA ag.length az, .slice aw aj.length ax, .string ao] 25 (0, 0))) ∧ (w'.heap[ad]? = some (.cells #[.string (⟨#[]⟩ : ByteArray), .slice none 0 0, .string (⟨#[]⟩ : ByteArray), .string (⟨#[]⟩ : ByteArray), .slice none 0 0, .slice none 0 0, .slice none 0 0, .string (⟨#[]⟩ : ByteArray)] 25 (0, 0))) ∧ (Below w.heap.size w w')) ?_ ?_
            rotate_left
            ·intro hJ2_5
             refine join_ (σ := Nat) 8 #[true, true, true, true, true, false, true, true, false, true, true, false, true, true, false, true, true, false, true, true, false, false, true, false] (fun s_ => [(7, .string aK), (3, .pointer (some ⟨s_, 0, none⟩))]) (fun s_ w' => (w'.cell? ⟨aa, 0, none⟩ = some (.string ak) ∧ w'.cell? ⟨aa, 1, none⟩ = some (.slice aq ah.length ar) ∧ w'.cell? ⟨aa, 2, none⟩ = some (.string al) ∧ w'.cell? ⟨aa, 3, none⟩ = some (.string am) ∧ w'.cell? ⟨aa, 4, none⟩ = some (.slice au ai.length av) ∧ w'.cell? ⟨aa, 5, none⟩ = some (.slice aA ag.length az) ∧ w'.cell? ⟨aa, 6, none⟩ = some (.slice aw aj.length ax) ∧ w'.cell? ⟨aa, 7, none⟩ = some (.string ao)) ∧ (w'.heap[aa]? = some (.cells #[.string ak, .slice aq ah.length ar, .string al, .string am, .slice au ai.length av, .slice aA ag.length az, .slice aw aj.length ax, .string ao] 25 (0, 0))) ∧ (w'.heap[ad]? = some (.cells #[.string (⟨#[]⟩ : ByteArray), .slice none 0 0, .string (⟨#[]⟩ : ByteArray), .string (⟨#[]⟩ : ByteArray), .slice none 0 0, .slice none 0 0, .slice none 0 0, .string (⟨#[]⟩ : ByteArray)] 25 (0, 0))) ∧ (w'.heap[s_]? = some (.cells #[.string (⟨#[]⟩ : ByteArray), .slice none 0 0, .string (⟨#[]⟩ : ByteArray), .string (⟨#[]⟩ : ByteArray), .slice none 0 0, .slice none 0 0, .slice none 0 0, .string (⟨#[]⟩ : ByteArray)] 25 (0, 0))) ∧ (w.heap.size ≤ s_) ∧ (w.heap.size ≤ s_) ∧ (aa ≠ s_) ∧ (s_ ≠ aa) ∧ (ad ≠ s_) ∧ (s_ ≠ ad) ∧ (Below w.heap.size w w')) ?_ ?_
             rotate_left
             ·intro hJ2_22
              refine join_ (σ := Unit) 9 #[true, true, true, true, true, false, true, true, false, true, true, false, true, true, false, true, true, false, true, true, false, false, false, false] (fun s_ => [(7, .string aK)]) (fun s_ w' => (w'.cell? ⟨aa, 0, none⟩ = some (.string ak) ∧ w'.cell? ⟨aa, 1, none⟩ = some (.slice aq ah.length ar) ∧ w'.cell? ⟨aa, 2, none⟩ = some (.string al) ∧ w'.cell? ⟨aa, 3, none⟩ = some (.string am) ∧ w'.cell? ⟨aa, 4, none⟩ = some (.slice au ai.length av) ∧ w'.cell? ⟨aa, 5, none⟩ = some (.slice aA ag.length az) ∧ w'.cell? ⟨aa, 6, none⟩ = some (.slice aw aj.length ax) ∧ w'.cell? ⟨aa, 7, none⟩ = some (.string ao)) ∧ (w'.heap[aa]? = some (.cells #[.string ak, .slice aq ah.length ar, .string al, .string am, .slice au ai.length av, .slice aA ag.length az, .slice aw aj.length ax, .string ao] 25 (0, 0))) ∧ (w'.heap[ad]? = some (.cells #[.string (⟨#[]⟩ : ByteArray), .slice none 0 0, .string (⟨#[]⟩ : ByteArray), .string (⟨#[]⟩ : ByteArray), .slice none 0 0, .slice none 0 0, .slice none 0 0, .string (⟨#[]⟩ : ByteArray)] 25 (0, 0))) ∧ (Below w.heap.size w w')) ?_ ?_
              rotate_left
              ·intro hJ2
               refine join_ (σ := Nat) 9 #[true, true, false, true, true, false, true, true, false, true, true, false, true, true, false, true, true, false, true, true, false, false, true, false] (fun s_ => [(3, .pointer (some ⟨s_, 0, none⟩))]) (fun s_ w' => (w'.cell? ⟨aa, 0, none⟩ = some (.string ak) ∧ w'.cell? ⟨aa, 1, none⟩ = some (.slice aq ah.length ar) ∧ w'.cell? ⟨aa, 2, none⟩ = some (.string al) ∧ w'.cell? ⟨aa, 3, none⟩ = some (.string am) ∧ w'.cell? ⟨aa, 4, none⟩ = some (.slice au ai.length av) ∧ w'.cell? ⟨aa, 5, none⟩ = some (.slice aA ag.length az) ∧ w'.cell? ⟨aa, 6, none⟩ = some (.slice aw aj.length ax) ∧ w'.cell? ⟨aa, 7, none⟩ = some (.string ao)) ∧ (w'.heap[aa]? = some (.cells #[.string ak, .slice aq ah.length ar, .string al, .string am, .slice au ai.length av, .slice aA ag.length az, .slice aw aj.length ax, .string ao] 25 (0, 0))) ∧ (w'.heap[ad]? = some (.cells #[.string (⟨#[]⟩ : ByteArray), .slice none 0 0, .string (⟨#[]⟩ : ByteArray), .string (⟨#[]⟩ : ByteArray), .slice none 0 0, .slice none 0 0, .slice none 0 0, .string (⟨#[]⟩ : ByteArray)] 25 (0, 0))) ∧ (w'.heap[s_]? = some (.cells #[.string (⟨#[]⟩ : ByteArray), .slice none 0 0, .string (⟨#[]⟩ : ByteArray), .string (⟨#[]⟩ : ByteArray), .slice none 0 0, .slice none 0 0, .slice none 0 0, .string (⟨#[]⟩ : ByteArray)] 25 (0, 0))) ∧ (w.heap.size ≤ s_) ∧ (w.heap.size ≤ s_) ∧ (aa ≠ s_) ∧ (s_ ≠ aa) ∧ (ad ≠ s_) ∧ (s_ ≠ ad) ∧ (Below w.heap.size w w')) ?_ ?_
               rotate_left
               ·intro hJ22
                refine two_ (i := 2) (j := 22) (Ni := some 7) (Nj := some 3) #[true, true, true, true, true, false, true, true, false, true, true, false, true, true, false, true, true, false, true, true, false, false, false, false] #[true, true, false, true, true, false, true, true, false, true, true, false, true, true, false, true, true, false, true, true, false, false, true, false] rfl rfl rfl rfl (two_of HT_.out (by kernel_rfl)) (by decide) (by decide) (fun K hK => ?_) (fun K hK => ?_)
                ·skip
                 refine goes_ Tryz.func15 (by kernel_rfl) rfl #[.string ak] (by rfl) rfl rfl Qm ?_
                 with_reducible refine (isoglosslaw06_short.calls ak aK _ A2.out).mono ?_
                 rintro e w' ⟨rfl, ⟨nd, rfl⟩⟩
                 refine ⟨_, rfl, ?_⟩
                 refine hK.out _ _ (C8_ ac.out) (fun hHeld => ?_)
                 clear hK K
                 refine nm_ (some 7) ?_
                 exact norm_ (by first | (simp only [putAll, Act.put, sA_, sB_, sC_]; done) | (simp only [putAll, Act.put, sA_, sB_, sC_]; rfl)) (hJ2 () _ ⟨hHeld, (Qb ac.out), (Qb ae.out), (Qy HB.out ap.out ay.out)⟩)
                ·skip
                 refine box_step ?hg (N := 3) ?hd (cs := #[.string (⟨#[]⟩ : ByteArray), .slice none 0 0, .string (⟨#[]⟩ : ByteArray), .string (⟨#[]⟩ : ByteArray), .slice none 0 0, .slice none 0 0, .slice none 0 0, .string (⟨#[]⟩ : ByteArray)]) (t := 25) ?hr ?_; (case hd => rfl); (case hg => rfl); (case hr => first | (go_simp; done) | (go_simp; rfl))
                 intro ab hg w12 hbox hb
                 have aH := Aside0.mk (blk_below (g := aa) (o := .cells #[.string ak, .slice aq ah.length ar, .string al, .string am, .slice au ai.length av, .slice aA ag.length az, .slice aw aj.length ax, .string ao] 25 (0, 0)) (Qb ac.out) hb)
                 have aI := Aside0.mk (blk_below (g := ad) (o := .cells #[.string (⟨#[]⟩ : ByteArray), .slice none 0 0, .string (⟨#[]⟩ : ByteArray), .string (⟨#[]⟩ : ByteArray), .slice none 0 0, .slice none 0 0, .slice none 0 0, .string (⟨#[]⟩ : ByteArray)] 25 (0, 0)) (Qb ae.out) hb)
                 have aJ := Aside0.mk (wT_ (Qy HB.out ap.out ay.out) hb)
                 have aR := Aside0.mk (hbox)
                 have aV := Aside0.mk ((by rw [hg]; exact (wZ_ (Qy HB.out ap.out ay.out)) : w.heap.size ≤ ab))
                 have aW := Aside0.mk ((by rw [hg]; exact (wZ_ (Qy HB.out ap.out ay.out)) : w.heap.size ≤ ab))
                 have aZ := Aside0.mk ((by rw [hg]; exact Nat.ne_of_lt (blk_lt (g := aa) (o := .cells #[.string ak, .slice aq ah.length ar, .string al, .string am, .slice au ai.length av, .slice aA ag.length az, .slice aw aj.length ax, .string ao] 25 (0, 0)) (Qb ac.out)) : aa ≠ ab))
                 have a0 := Aside0.mk ((by rw [hg]; exact Nat.ne_of_gt (blk_lt (g := aa) (o := .cells #[.string ak, .slice aq ah.length ar, .string al, .string am, .slice au ai.length av, .slice aA ag.length az, .slice aw aj.length ax, .string ao] 25 (0, 0)) (Qb ac.out)) : ab ≠ aa))
                 have a1 := Aside0.mk ((by rw [hg]; exact Nat.ne_of_lt (blk_lt (g := ad) (o := .cells #[.string (⟨#[]⟩ : ByteArray), .slice none 0 0, .string (⟨#[]⟩ : ByteArray), .string (⟨#[]⟩ : ByteArray), .slice none 0 0, .slice none 0 0, .slice none 0 0, .string (⟨#[]⟩ : ByteArray)] 25 (0, 0)) (Qb ae.out)) : ad ≠ ab))
                 have a2 := Aside0.mk ((by rw [hg]; exact Nat.ne_of_gt (blk_lt (g := ad) (o := .cells #[.string (⟨#[]⟩ : ByteArray), .slice none 0 0, .string (⟨#[]⟩ : ByteArray), .string (⟨#[]⟩ : ByteArray), .slice none 0 0, .slice none 0 0, .slice none 0 0, .string (⟨#[]⟩ : ByteArray)] 25 (0, 0)) (Qb ae.out)) : ab ≠ ad))
                 clear ac ae HB
                 have ac := aH; have ae := aI; have HB := aJ; have af := aR; have GW134 := aV; have aC := aW; have NB119_134 := aZ; have NB134_119 := a0; have NB120_134 := a1; have NB134_120 := a2
                 clear aH aI aJ aR aV aW aZ a0 a1 a2 hb hbox hg
                 refine hK.out _ _ (C8_ ac.out) (fun hHeld => ?_)
                 clear hK K
                 refine nm_ (some 3) ?_
                 exact norm_ (by first | (simp only [putAll, Act.put, sA_, sB_, sC_]; done) | (simp only [putAll, Act.put, sA_, sB_, sC_]; rfl)) (hJ22 (ab) _ ⟨hHeld, (Qb ac.out), (Qb ae.out), (Qb af.out), GW134.out, aC.out, NB119_134.out, NB134_119.out, NB120_134.out, NB134_120.out, (Qz HB.out ap.out ay.out aC.out)⟩)
               ·skip
                rintro ab w13 ⟨hS_, h0_, h1_, h2_, h3_, h4_, h5_, h6_, h7_, h8_, h9_⟩
                have aH : Aside0 (w13.heap[aa]? = some (.cells #[.string ak, .slice aq ah.length ar, .string al, .string am, .slice au ai.length av, .slice aA ag.length az, .slice aw aj.length ax, .string ao] 25 (0, 0))) := ⟨h0_⟩
                have aI : Aside0 (w13.heap[ad]? = some (.cells #[.string (⟨#[]⟩ : ByteArray), .slice none 0 0, .string (⟨#[]⟩ : ByteArray), .string (⟨#[]⟩ : ByteArray), .slice none 0 0, .slice none 0 0, .slice none 0 0, .string (⟨#[]⟩ : ByteArray)] 25 (0, 0))) := ⟨h1_⟩
                have aJ : Aside0 (w13.heap[ab]? = some (.cells #[.string (⟨#[]⟩ : ByteArray), .slice none 0 0, .string (⟨#[]⟩ : ByteArray), .string (⟨#[]⟩ : ByteArray), .slice none 0 0, .slice none 0 0, .slice none 0 0, .string (⟨#[]⟩ : ByteArray)] 25 (0, 0))) := ⟨h2_⟩
                have aR : Aside0 (w.heap.size ≤ ab) := ⟨h3_⟩
                have aV : Aside0 (w.heap.size ≤ ab) := ⟨h4_⟩
                have aW : Aside0 (aa ≠ ab) := ⟨h5_⟩
                have aZ : Aside0 (ab ≠ aa) := ⟨h6_⟩
                have a0 : Aside0 (ad ≠ ab) := ⟨h7_⟩
                have a1 : Aside0 (ab ≠ ad) := ⟨h8_⟩
                have a2 : Aside0 (Below w.heap.size w w13) := ⟨h9_⟩
                clear ac ae HB h0_ h1_ h2_ h3_ h4_ h5_ h6_ h7_ h8_ h9_
                have ac := aH; have ae := aI; have af := aJ; have GW134 := aR; have aC := aV; have NB119_134 := aW; have NB134_119 := aZ; have NB120_134 := a0; have NB134_120 := a1; have HB := a2
                clear aH aI aJ aR aV aW aZ a0 a1 a2
                have hHeld : w13.cell? ⟨aa, 0, none⟩ = some (.string ak) ∧ w13.cell? ⟨aa, 1, none⟩ = some (.slice aq ah.length ar) ∧ w13.cell? ⟨aa, 2, none⟩ = some (.string al) ∧ w13.cell? ⟨aa, 3, none⟩ = some (.string am) ∧ w13.cell? ⟨aa, 4, none⟩ = some (.slice au ai.length av) ∧ w13.cell? ⟨aa, 5, none⟩ = some (.slice aA ag.length az) ∧ w13.cell? ⟨aa, 6, none⟩ = some (.slice aw aj.length ax) ∧ w13.cell? ⟨aa, 7, none⟩ = some (.string ao) := hS_
                refine norm_ (a' := ?_) ?_ ?_
                rotate_left
                ·simp only [putAll, Act.put, sA_, sB_, sC_]
                 rfl
                refine on_ (i := 2) (N := some 7) HT_ (bl_ 24 5093087) rfl rfl (fun K hK => ?_)
                refine goes_ Tryz.func15 (by kernel_rfl) rfl #[.string ak] (by rfl) rfl rfl Qm ?_
                with_reducible refine (isoglosslaw06_short.calls ak aK _ A2.out).mono ?_
                rintro e w' ⟨rfl, ⟨nd, rfl⟩⟩
                refine ⟨_, rfl, ?_⟩
                refine hK.out _ _ (C8_ ac.out) (fun hHeld => ?_)
                clear hK K
                refine nm_ (some 7) ?_
                exact norm_ (by first | (simp only [putAll, Act.put, sA_, sB_, sC_]; done) | (simp only [putAll, Act.put, sA_, sB_, sC_]; rfl)) (hJ2_22 (ab) _ ⟨hHeld, (Qb ac.out), (Qb ae.out), (Qb af.out), GW134.out, aC.out, NB119_134.out, NB134_119.out, NB120_134.out, NB134_120.out, (Qz HB.out ap.out ay.out aC.out)⟩)
              ·skip
               rintro _ w12 ⟨hS_, h0_, h1_, h2_⟩
               have aH : Aside0 (w12.heap[aa]? = some (.cells #[.string ak, .slice aq ah.length ar, .string al, .string am, .slice au ai.length av, .slice aA ag.length az, .slice aw aj.length ax, .string ao] 25 (0, 0))) := ⟨h0_⟩
               have aI : Aside0 (w12.heap[ad]? = some (.cells #[.string (⟨#[]⟩ : ByteArray), .slice none 0 0, .string (⟨#[]⟩ : ByteArray), .string (⟨#[]⟩ : ByteArray), .slice none 0 0, .slice none 0 0, .slice none 0 0, .string (⟨#[]⟩ : ByteArray)] 25 (0, 0))) := ⟨h1_⟩
               have aJ : Aside0 (Below w.heap.size w w12) := ⟨h2_⟩
               clear ac ae HB h0_ h1_ h2_
               have ac := aH; have ae := aI; have HB := aJ
               clear aH aI aJ
               have hHeld : w12.cell? ⟨aa, 0, none⟩ = some (.string ak) ∧ w12.cell? ⟨aa, 1, none⟩ = some (.slice aq ah.length ar) ∧ w12.cell? ⟨aa, 2, none⟩ = some (.string al) ∧ w12.cell? ⟨aa, 3, none⟩ = some (.string am) ∧ w12.cell? ⟨aa, 4, none⟩ = some (.slice au ai.length av) ∧ w12.cell? ⟨aa, 5, none⟩ = some (.slice aA ag.length az) ∧ w12.cell? ⟨aa, 6, none⟩ = some (.slice aw aj.length ax) ∧ w12.cell? ⟨aa, 7, none⟩ = some (.string ao) := hS_
               refine norm_ (a' := ?_) ?_ ?_
               rotate_left
               ·simp only [putAll, Act.put, sA_, sB_, sC_]
                rfl
               refine two_ (i := 5) (j := 22) (Ni := some 10) (Nj := some 3) #[true, true, true, true, true, true, true, true, false, true, true, false, true, true, false, true, true, false, true, true, false, false, false, false] #[true, true, true, true, true, false, true, true, false, true, true, false, true, true, false, true, true, false, true, true, false, false, true, false] rfl rfl rfl rfl (two_of HT_.out (by kernel_rfl)) (by decide) (by decide) (fun K hK => ?_) (fun K hK => ?_)
               ·skip
                refine goes_ Tryz.func15 (by kernel_rfl) rfl #[.string al] (by rfl) rfl rfl Qm ?_
                with_reducible refine (isoglosslaw06_short.calls al aQ _ A3.out).mono ?_
                rintro e w' ⟨rfl, ⟨nd, rfl⟩⟩
                refine ⟨_, rfl, ?_⟩
                refine hK.out _ _ (C8_ ac.out) (fun hHeld => ?_)
                clear hK K
                refine nm_ (some 10) ?_
                exact norm_ (by first | (simp only [putAll, Act.put, sA_, sB_, sC_]; done) | (simp only [putAll, Act.put, sA_, sB_, sC_]; rfl)) (hJ2_5 () _ ⟨hHeld, (Qb ac.out), (Qb ae.out), (Qy HB.out ap.out ay.out)⟩)
               ·skip
                refine box_step ?hg (N := 3) ?hd (cs := #[.string (⟨#[]⟩ : ByteArray), .slice none 0 0, .string (⟨#[]⟩ : ByteArray), .string (⟨#[]⟩ : ByteArray), .slice none 0 0, .slice none 0 0, .slice none 0 0, .string (⟨#[]⟩ : ByteArray)]) (t := 25) ?hr ?_; (case hd => rfl); (case hg => rfl); (case hr => first | (go_simp; done) | (go_simp; rfl))
                intro ab hg w13 hbox hb
                have aH := Aside0.mk (blk_below (g := aa) (o := .cells #[.string ak, .slice aq ah.length ar, .string al, .string am, .slice au ai.length av, .slice aA ag.length az, .slice aw aj.length ax, .string ao] 25 (0, 0)) (Qb ac.out) hb)
                have aI := Aside0.mk (blk_below (g := ad) (o := .cells #[.string (⟨#[]⟩ : ByteArray), .slice none 0 0, .string (⟨#[]⟩ : ByteArray), .string (⟨#[]⟩ : ByteArray), .slice none 0 0, .slice none 0 0, .slice none 0 0, .string (⟨#[]⟩ : ByteArray)] 25 (0, 0)) (Qb ae.out) hb)
                have aJ := Aside0.mk (wT_ (Qy HB.out ap.out ay.out) hb)
                have aR := Aside0.mk (hbox)
                have aV := Aside0.mk ((by rw [hg]; exact (wZ_ (Qy HB.out ap.out ay.out)) : w.heap.size ≤ ab))
                have aW := Aside0.mk ((by rw [hg]; exact (wZ_ (Qy HB.out ap.out ay.out)) : w.heap.size ≤ ab))
                have aZ := Aside0.mk ((by rw [hg]; exact Nat.ne_of_lt (blk_lt (g := aa) (o := .cells #[.string ak, .slice aq ah.length ar, .string al, .string am, .slice au ai.length av, .slice aA ag.length az, .slice aw aj.length ax, .string ao] 25 (0, 0)) (Qb ac.out)) : aa ≠ ab))
                have a0 := Aside0.mk ((by rw [hg]; exact Nat.ne_of_gt (blk_lt (g := aa) (o := .cells #[.string ak, .slice aq ah.length ar, .string al, .string am, .slice au ai.length av, .slice aA ag.length az, .slice aw aj.length ax, .string ao] 25 (0, 0)) (Qb ac.out)) : ab ≠ aa))
                have a1 := Aside0.mk ((by rw [hg]; exact Nat.ne_of_lt (blk_lt (g := ad) (o := .cells #[.string (⟨#[]⟩ : ByteArray), .slice none 0 0, .string (⟨#[]⟩ : ByteArray), .string (⟨#[]⟩ : ByteArray), .slice none 0 0, .slice none 0 0, .slice none 0 0, .string (⟨#[]⟩ : ByteArray)] 25 (0, 0)) (Qb ae.out)) : ad ≠ ab))
                have a2 := Aside0.mk ((by rw [hg]; exact Nat.ne_of_gt (blk_lt (g := ad) (o := .cells #[.string (⟨#[]⟩ : ByteArray), .slice none 0 0, .string (⟨#[]⟩ : ByteArray), .string (⟨#[]⟩ : ByteArray), .slice none 0 0, .slice none 0 0, .slice none 0 0, .string (⟨#[]⟩ : ByteArray)] 25 (0, 0)) (Qb ae.out)) : ab ≠ ad))
                clear ac ae HB
                have ac := aH; have ae := aI; have HB := aJ; have af := aR; have GW134 := aV; have aC := aW; have NB119_134 := aZ; have NB134_119 := a0; have NB120_134 := a1; have NB134_120 := a2
                clear aH aI aJ aR aV aW aZ a0 a1 a2 hb hbox hg
                refine hK.out _ _ (C8_ ac.out) (fun hHeld => ?_)
                clear hK K
                refine nm_ (some 3) ?_
                exact norm_ (by first | (simp only [putAll, Act.put, sA_, sB_, sC_]; done) | (simp only [putAll, Act.put, sA_, sB_, sC_]; rfl)) (hJ2_22 (ab) _ ⟨hHeld, (Qb ac.out), (Qb ae.out), (Qb af.out), GW134.out, aC.out, NB119_134.out, NB134_119.out, NB120_134.out, NB134_120.out, (Qz HB.out ap.out ay.out aC.out)⟩)
             ·skip
              rintro ab w13 ⟨hS_, h0_, h1_, h2_, h3_, h4_, h5_, h6_, h7_, h8_, h9_⟩
              have aH : Aside0 (w13.heap[aa]? = some (.cells #[.string ak, .slice aq ah.length ar, .string al, .string am, .slice au ai.length av, .slice aA ag.length az, .slice aw aj.length ax, .string ao] 25 (0, 0))) := ⟨h0_⟩
              have aI : Aside0 (w13.heap[ad]? = some (.cells #[.string (⟨#[]⟩ : ByteArray), .slice none 0 0, .string (⟨#[]⟩ : ByteArray), .string (⟨#[]⟩ : ByteArray), .slice none 0 0, .slice none 0 0, .slice none 0 0, .string (⟨#[]⟩ : ByteArray)] 25 (0, 0))) := ⟨h1_⟩
              have aJ : Aside0 (w13.heap[ab]? = some (.cells #[.string (⟨#[]⟩ : ByteArray), .slice none 0 0, .string (⟨#[]⟩ : ByteArray), .string (⟨#[]⟩ : ByteArray), .slice none 0 0, .slice none 0 0, .slice none 0 0, .string (⟨#[]⟩ : ByteArray)] 25 (0, 0))) := ⟨h2_⟩
              have aR : Aside0 (w.heap.size ≤ ab) := ⟨h3_⟩
              have aV : Aside0 (w.heap.size ≤ ab) := ⟨h4_⟩
              have aW : Aside0 (aa ≠ ab) := ⟨h5_⟩
              have aZ : Aside0 (ab ≠ aa) := ⟨h6_⟩
              have a0 : Aside0 (ad ≠ ab) := ⟨h7_⟩
              have a1 : Aside0 (ab ≠ ad) := ⟨h8_⟩
              have a2 : Aside0 (Below w.heap.size w w13) := ⟨h9_⟩
              clear ac ae HB h0_ h1_ h2_ h3_ h4_ h5_ h6_ h7_ h8_ h9_
              have ac := aH; have ae := aI; have af := aJ; have GW134 := aR; have aC := aV; have NB119_134 := aW; have NB134_119 := aZ; have NB120_134 := a0; have NB134_120 := a1; have HB := a2
              clear aH aI aJ aR aV aW aZ a0 a1 a2
              have hHeld : w13.cell? ⟨aa, 0, none⟩ = some (.string ak) ∧ w13.cell? ⟨aa, 1, none⟩ = some (.slice aq ah.length ar) ∧ w13.cell? ⟨aa, 2, none⟩ = some (.string al) ∧ w13.cell? ⟨aa, 3, none⟩ = some (.string am) ∧ w13.cell? ⟨aa, 4, none⟩ = some (.slice au ai.length av) ∧ w13.cell? ⟨aa, 5, none⟩ = some (.slice aA ag.length az) ∧ w13.cell? ⟨aa, 6, none⟩ = some (.slice aw aj.length ax) ∧ w13.cell? ⟨aa, 7, none⟩ = some (.string ao) := hS_
              refine norm_ (a' := ?_) ?_ ?_
              rotate_left
              ·simp only [putAll, Act.put, sA_, sB_, sC_]
               rfl
              refine on_ (i := 5) (N := some 10) HT_ (bl_ 24 5093119) rfl rfl (fun K hK => ?_)
              refine goes_ Tryz.func15 (by kernel_rfl) rfl #[.string al] (by rfl) rfl rfl Qm ?_
              with_reducible refine (isoglosslaw06_short.calls al aQ _ A3.out).mono ?_
              rintro e w' ⟨rfl, ⟨nd, rfl⟩⟩
              refine ⟨_, rfl, ?_⟩
              refine hK.out _ _ (C8_ ac.out) (fun hHeld => ?_)
              clear hK K
              refine nm_ (some 10) ?_
              exact norm_ (by first | (simp only [putAll, Act.put, sA_, sB_, sC_]; done) | (simp only [putAll, Act.put, sA_, sB_, sC_]; rfl)) (hJ2_5_22 (ab) _ ⟨hHeld, (Qb ac.out), (Qb ae.out), (Qb af.out), GW134.out, aC.out, NB119_134.out, NB134_119.out, NB120_134.out, NB134_120.out, (Qz HB.out ap.out ay.out aC.out)⟩)
            ·skip
             rintro _ w12 ⟨hS_, h0_, h1_, h2_⟩
             have aH : Aside0 (w12.heap[aa]? = some (.cells #[.string ak, .slice aq ah.length ar, .string al, .string am, .slice au ai.length av, .slice aA ag.length az, .slice aw aj.length ax, .string ao] 25 (0, 0))) := ⟨h0_⟩
             have aI : Aside0 (w12.heap[ad]? = some (.cells #[.string (⟨#[]⟩ : ByteArray), .slice none 0 0, .string (⟨#[]⟩ : ByteArray), .string (⟨#[]⟩ : ByteArray), .slice none 0 0, .slice none 0 0, .slice none 0 0, .string (⟨#[]⟩ : ByteArray)] 25 (0, 0))) := ⟨h1_⟩
             have aJ : Aside0 (Below w.heap.size w w12) := ⟨h2_⟩
             clear ac ae HB h0_ h1_ h2_
             have ac := aH; have ae := aI; have HB := aJ
             clear aH aI aJ
             have hHeld : w12.cell? ⟨aa, 0, none⟩ = some (.string ak) ∧ w12.cell? ⟨aa, 1, none⟩ = some (.slice aq ah.length ar) ∧ w12.cell? ⟨aa, 2, none⟩ = some (.string al) ∧ w12.cell? ⟨aa, 3, none⟩ = some (.string am) ∧ w12.cell? ⟨aa, 4, none⟩ = some (.slice au ai.length av) ∧ w12.cell? ⟨aa, 5, none⟩ = some (.slice aA ag.length az) ∧ w12.cell? ⟨aa, 6, none⟩ = some (.slice aw aj.length ax) ∧ w12.cell? ⟨aa, 7, none⟩ = some (.string ao) := hS_
             refine norm_ (a' := ?_) ?_ ?_
             rotate_left
             ·simp only [putAll, Act.put, sA_, sB_, sC_]
              rfl
             refine two_ (i := 8) (j := 22) (Ni := some 13) (Nj := some 3) #[true, true, true, true, true, true, true, true, true, true, true, false, true, true, false, true, true, false, true, true, false, false, false, false] #[true, true, true, true, true, true, true, true, false, true, true, false, true, true, false, true, true, false, true, true, false, false, true, false] rfl rfl rfl rfl (two_of HT_.out (by kernel_rfl)) (by decide) (by decide) (fun K hK => ?_) (fun K hK => ?_)
             ·skip
              refine goes_ Tryz.func15 (by kernel_rfl) rfl #[.string am] (by rfl) rfl rfl Qm ?_
              with_reducible refine (isoglosslaw06_short.calls am aU _ A4.out).mono ?_
              rintro e w' ⟨rfl, ⟨nd, rfl⟩⟩
              refine ⟨_, rfl, ?_⟩
              refine hK.out _ _ (C8_ ac.out) (fun hHeld => ?_)
              clear hK K
              refine nm_ (some 13) ?_
              exact norm_ (by first | (simp only [putAll, Act.put, sA_, sB_, sC_]; done) | (simp only [putAll, Act.put, sA_, sB_, sC_]; rfl)) (hJ2_5_8 () _ ⟨hHeld, (Qb ac.out), (Qb ae.out), (Qy HB.out ap.out ay.out)⟩)
             ·skip
              refine box_step ?hg (N := 3) ?hd (cs := #[.string (⟨#[]⟩ : ByteArray), .slice none 0 0, .string (⟨#[]⟩ : ByteArray), .string (⟨#[]⟩ : ByteArray), .slice none 0 0, .slice none 0 0, .slice none 0 0, .string (⟨#[]⟩ : ByteArray)]) (t := 25) ?hr ?_; (case hd => rfl); (case hg => rfl); (case hr => first | (go_simp; done) | (go_simp; rfl))
              intro ab hg w13 hbox hb
              have aH := Aside0.mk (blk_below (g := aa) (o := .cells #[.string ak, .slice aq ah.length ar, .string al, .string am, .slice au ai.length av, .slice aA ag.length az, .slice aw aj.length ax, .string ao] 25 (0, 0)) (Qb ac.out) hb)
              have aI := Aside0.mk (blk_below (g := ad) (o := .cells #[.string (⟨#[]⟩ : ByteArray), .slice none 0 0, .string (⟨#[]⟩ : ByteArray), .string (⟨#[]⟩ : ByteArray), .slice none 0 0, .slice none 0 0, .slice none 0 0, .string (⟨#[]⟩ : ByteArray)] 25 (0, 0)) (Qb ae.out) hb)
              have aJ := Aside0.mk (wT_ (Qy HB.out ap.out ay.out) hb)
              have aR := Aside0.mk (hbox)
              have aV := Aside0.mk ((by rw [hg]; exact (wZ_ (Qy HB.out ap.out ay.out)) : w.heap.size ≤ ab))
              have aW := Aside0.mk ((by rw [hg]; exact (wZ_ (Qy HB.out ap.out ay.out)) : w.heap.size ≤ ab))
              have aZ := Aside0.mk ((by rw [hg]; exact Nat.ne_of_lt (blk_lt (g := aa) (o := .cells #[.string ak, .slice aq ah.length ar, .string al, .string am, .slice au ai.length av, .slice aA ag.length az, .slice aw aj.length ax, .string ao] 25 (0, 0)) (Qb ac.out)) : aa ≠ ab))
              have a0 := Aside0.mk ((by rw [hg]; exact Nat.ne_of_gt (blk_lt (g := aa) (o := .cells #[.string ak, .slice aq ah.length ar, .string al, .string am, .slice au ai.length av, .slice aA ag.length az, .slice aw aj.length ax, .string ao] 25 (0, 0)) (Qb ac.out)) : ab ≠ aa))
              have a1 := Aside0.mk ((by rw [hg]; exact Nat.ne_of_lt (blk_lt (g := ad) (o := .cells #[.string (⟨#[]⟩ : ByteArray), .slice none 0 0, .string (⟨#[]⟩ : ByteArray), .string (⟨#[]⟩ : ByteArray), .slice none 0 0, .slice none 0 0, .slice none 0 0, .string (⟨#[]⟩ : ByteArray)] 25 (0, 0)) (Qb ae.out)) : ad ≠ ab))
              have a2 := Aside0.mk ((by rw [hg]; exact Nat.ne_of_gt (blk_lt (g := ad) (o := .cells #[.string (⟨#[]⟩ : ByteArray), .slice none 0 0, .string (⟨#[]⟩ : ByteArray), .string (⟨#[]⟩ : ByteArray), .slice none 0 0, .slice none 0 0, .slice none 0 0, .string (⟨#[]⟩ : ByteArray)] 25 (0, 0)) (Qb ae.out)) : ab ≠ ad))
              clear ac ae HB
              have ac := aH; have ae := aI; have HB := aJ; have af := aR; have GW134 := aV; have aC := aW; have NB119_134 := aZ; have NB134_119 := a0; have NB120_134 := a1; have NB134_120 := a2
              clear aH aI aJ aR aV aW aZ a0 a1 a2 hb hbox hg
              refine hK.out _ _ (C8_ ac.out) (fun hHeld => ?_)
              clear hK K
              refine nm_ (some 3) ?_
              exact norm_ (by first | (simp only [putAll, Act.put, sA_, sB_, sC_]; done) | (simp only [putAll, Act.put, sA_, sB_, sC_]; rfl)) (hJ2_5_22 (ab) _ ⟨hHeld, (Qb ac.out), (Qb ae.out), (Qb af.out), GW134.out, aC.out, NB119_134.out, NB134_119.out, NB120_134.out, NB134_120.out, (Qz HB.out ap.out ay.out aC.out)⟩)
           ·skip
            rintro ab w13 ⟨hS_, h0_, h1_, h2_, h3_, h4_, h5_, h6_, h7_, h8_, h9_⟩
            have aH : Aside0 (w13.heap[aa]? = some (.cells #[.string ak, .slice aq ah.length ar, .string al, .string am, .slice au ai.length av, .slice aA ag.length az, .slice aw aj.length ax, .string ao] 25 (0, 0))) := ⟨h0_⟩
            have aI : Aside0 (w13.heap[ad]? = some (.cells #[.string (⟨#[]⟩ : ByteArray), .slice none 0 0, .string (⟨#[]⟩ : ByteArray), .string (⟨#[]⟩ : ByteArray), .slice none 0 0, .slice none 0 0, .slice none 0 0, .string (⟨#[]⟩ : ByteArray)] 25 (0, 0))) := ⟨h1_⟩
            have aJ : Aside0 (w13.heap[ab]? = some (.cells #[.string (⟨#[]⟩ : ByteArray), .slice none 0 0, .string (⟨#[]⟩ : ByteArray), .string (⟨#[]⟩ : ByteArray), .slice none 0 0, .slice none 0 0, .slice none 0 0, .string (⟨#[]⟩ : ByteArray)] 25 (0, 0))) := ⟨h2_⟩
            have aR : Aside0 (w.heap.size ≤ ab) := ⟨h3_⟩
            have aV : Aside0 (w.heap.size ≤ ab) := ⟨h4_⟩
            have aW : Aside0 (aa ≠ ab) := ⟨h5_⟩
            have aZ : Aside0 (ab ≠ aa) := ⟨h6_⟩
            have a0 : Aside0 (ad ≠ ab) := ⟨h7_⟩
            have a1 : Aside0 (ab ≠ ad) := ⟨h8_⟩
            have a2 : Aside0 (Below w.heap.size w w13) := ⟨h9_⟩
            clear ac ae HB h0_ h1_ h2_ h3_ h4_ h5_ h6_ h7_ h8_ h9_
            have ac := aH; have ae := aI; have af := aJ; have GW134 := aR; have aC := aV; have NB119_134 := aW; have NB134_119 := aZ; have NB120_134 := a0; have NB134_120 := a1; have HB := a2
            clear aH aI aJ aR aV aW aZ a0 a1 a2
            have hHeld : w13.cell? ⟨aa, 0, none⟩ = some (.string ak) ∧ w13.cell? ⟨aa, 1, none⟩ = some (.slice aq ah.length ar) ∧ w13.cell? ⟨aa, 2, none⟩ = some (.string al) ∧ w13.cell? ⟨aa, 3, none⟩ = some (.string am) ∧ w13.cell? ⟨aa, 4, none⟩ = some (.slice au ai.length av) ∧ w13.cell? ⟨aa, 5, none⟩ = some (.slice aA ag.length az) ∧ w13.cell? ⟨aa, 6, none⟩ = some (.slice aw aj.length ax) ∧ w13.cell? ⟨aa, 7, none⟩ = some (.string ao) := hS_
            refine norm_ (a' := ?_) ?_ ?_
            rotate_left
            ·simp only [putAll, Act.put, sA_, sB_, sC_]
             rfl
            refine on_ (i := 8) (N := some 13) HT_ (bl_ 24 5093375) rfl rfl (fun K hK => ?_)
            refine goes_ Tryz.func15 (by kernel_rfl) rfl #[.string am] (by rfl) rfl rfl Qm ?_
            with_reducible refine (isoglosslaw06_short.calls am aU _ A4.out).mono ?_
            rintro e w' ⟨rfl, ⟨nd, rfl⟩⟩
            refine ⟨_, rfl, ?_⟩
            refine hK.out _ _ (C8_ ac.out) (fun hHeld => ?_)
            clear hK K
            refine nm_ (some 13) ?_
            exact norm_ (by first | (simp only [putAll, Act.put, sA_, sB_, sC_]; done) | (simp only [putAll, Act.put, sA_, sB_, sC_]; rfl)) (hJ2_5_8_22 (ab) _ ⟨hHeld, (Qb ac.out), (Qb ae.out), (Qb af.out), GW134.out, aC.out, NB119_134.out, NB134_119.out, NB120_134.out, NB134_120.out, (Qz HB.out ap.out ay.out aC.out)⟩)
          ·skip
           rintro _ w12 ⟨hS_, h0_, h1_, h2_⟩
           have aH : Aside0 (w12.heap[aa]? = some (.cells #[.string ak, .slice aq ah.length ar, .string al, .string am, .slice au ai.length av, .slice aA ag.length az, .slice aw aj.length ax, .string ao] 25 (0, 0))) := ⟨h0_⟩
           have aI : Aside0 (w12.heap[ad]? = some (.cells #[.string (⟨#[]⟩ : ByteArray), .slice none 0 0, .string (⟨#[]⟩ : ByteArray), .string (⟨#[]⟩ : ByteArray), .slice none 0 0, .slice none 0 0, .slice none 0 0, .string (⟨#[]⟩ : ByteArray)] 25 (0, 0))) := ⟨h1_⟩
           have aJ : Aside0 (Below w.heap.size w w12) := ⟨h2_⟩
           clear ac ae HB h0_ h1_ h2_
           have ac := aH; have ae := aI; have HB := aJ
           clear aH aI aJ
           have hHeld : w12.cell? ⟨aa, 0, none⟩ = some (.string ak) ∧ w12.cell? ⟨aa, 1, none⟩ = some (.slice aq ah.length ar) ∧ w12.cell? ⟨aa, 2, none⟩ = some (.string al) ∧ w12.cell? ⟨aa, 3, none⟩ = some (.string am) ∧ w12.cell? ⟨aa, 4, none⟩ = some (.slice au ai.length av) ∧ w12.cell? ⟨aa, 5, none⟩ = some (.slice aA ag.length az) ∧ w12.cell? ⟨aa, 6, none⟩ = some (.slice aw aj.length ax) ∧ w12.cell? ⟨aa, 7, none⟩ = some (.string ao) := hS_
           refine norm_ (a' := ?_) ?_ ?_
           rotate_left
           ·simp only [putAll, Act.put, sA_, sB_, sC_]
            rfl
           refine two_ (i := 11) (j := 22) (Ni := some 16) (Nj := some 3) #[true, true, true, true, true, true, true, true, true, true, true, true, true, true, false, true, true, false, true, true, false, false, false, false] #[true, true, true, true, true, true, true, true, true, true, true, false, true, true, false, true, true, false, true, true, false, false, true, false] rfl rfl rfl rfl (two_of HT_.out (by kernel_rfl)) (by decide) (by decide) (fun K hK => ?_) (fun K hK => ?_)
           ·skip
            refine goes_ Tryz.func15 (by kernel_rfl) rfl #[.string ao] (by rfl) rfl rfl Qm ?_
            with_reducible refine (isoglosslaw06_short.calls ao aY _ A5.out).mono ?_
            rintro e w' ⟨rfl, ⟨nd, rfl⟩⟩
            refine ⟨_, rfl, ?_⟩
            refine hK.out _ _ (C8_ ac.out) (fun hHeld => ?_)
            clear hK K
            refine nm_ (some 16) ?_
            exact norm_ (by first | (simp only [putAll, Act.put, sA_, sB_, sC_]; done) | (simp only [putAll, Act.put, sA_, sB_, sC_]; rfl)) (hJ2_5_8_11 () _ ⟨hHeld, (Qb ac.out), (Qb ae.out), (Qy HB.out ap.out ay.out)⟩)
           ·skip
            refine box_step ?hg (N := 3) ?hd (cs := #[.string (⟨#[]⟩ : ByteArray), .slice none 0 0, .string (⟨#[]⟩ : ByteArray), .string (⟨#[]⟩ : ByteArray), .slice none 0 0, .slice none 0 0, .slice none 0 0, .string (⟨#[]⟩ : ByteArray)]) (t := 25) ?hr ?_; (case hd => rfl); (case hg => rfl); (case hr => first | (go_simp; done) | (go_simp; rfl))
            intro ab hg w13 hbox hb
            have aH := Aside0.mk (blk_below (g := aa) (o := .cells #[.string ak, .slice aq ah.length ar, .string al, .string am, .slice au ai.length av, .slice aA ag.length az, .slice aw aj.length ax, .string ao] 25 (0, 0)) (Qb ac.out) hb)
            have aI := Aside0.mk (blk_below (g := ad) (o := .cells #[.string (⟨#[]⟩ : ByteArray), .slice none 0 0, .string (⟨#[]⟩ : ByteArray), .string (⟨#[]⟩ : ByteArray), .slice none 0 0, .slice none 0 0, .slice none 0 0, .string (⟨#[]⟩ : ByteArray)] 25 (0, 0)) (Qb ae.out) hb)
            have aJ := Aside0.mk (wT_ (Qy HB.out ap.out ay.out) hb)
            have aR := Aside0.mk (hbox)
            have aV := Aside0.mk ((by rw [hg]; exact (wZ_ (Qy HB.out ap.out ay.out)) : w.heap.size ≤ ab))
            have aW := Aside0.mk ((by rw [hg]; exact (wZ_ (Qy HB.out ap.out ay.out)) : w.heap.size ≤ ab))
            have aZ := Aside0.mk ((by rw [hg]; exact Nat.ne_of_lt (blk_lt (g := aa) (o := .cells #[.string ak, .slice aq ah.length ar, .string al, .string am, .slice au ai.length av, .slice aA ag.length az, .slice aw aj.length ax, .string ao] 25 (0, 0)) (Qb ac.out)) : aa ≠ ab))
            have a0 := Aside0.mk ((by rw [hg]; exact Nat.ne_of_gt (blk_lt (g := aa) (o := .cells #[.string ak, .slice aq ah.length ar, .string al, .string am, .slice au ai.length av, .slice aA ag.length az, .slice aw aj.length ax, .string ao] 25 (0, 0)) (Qb ac.out)) : ab ≠ aa))
            have a1 := Aside0.mk ((by rw [hg]; exact Nat.ne_of_lt (blk_lt (g := ad) (o := .cells #[.string (⟨#[]⟩ : ByteArray), .slice none 0 0, .string (⟨#[]⟩ : ByteArray), .string (⟨#[]⟩ : ByteArray), .slice none 0 0, .slice none 0 0, .slice none 0 0, .string (⟨#[]⟩ : ByteArray)] 25 (0, 0)) (Qb ae.out)) : ad ≠ ab))
            have a2 := Aside0.mk ((by rw [hg]; exact Nat.ne_of_gt (blk_lt (g := ad) (o := .cells #[.string (⟨#[]⟩ : ByteArray), .slice none 0 0, .string (⟨#[]⟩ : ByteArray), .string (⟨#[]⟩ : ByteArray), .slice none 0 0, .slice none 0 0, .slice none 0 0, .string (⟨#[]⟩ : ByteArray)] 25 (0, 0)) (Qb ae.out)) : ab ≠ ad))
            clear ac ae HB
            have ac := aH; have ae := aI; have HB := aJ; have af := aR; have GW134 := aV; have aC := aW; have NB119_134 := aZ; have NB134_119 := a0; have NB120_134 := a1; have NB134_120 := a2
            clear aH aI aJ aR aV aW aZ a0 a1 a2 hb hbox hg
            refine hK.out _ _ (C8_ ac.out) (fun hHeld => ?_)
            clear hK K
            refine nm_ (some 3) ?_
            exact norm_ (by first | (simp only [putAll, Act.put, sA_, sB_, sC_]; done) | (simp only [putAll, Act.put, sA_, sB_, sC_]; rfl)) (hJ2_5_8_22 (ab) _ ⟨hHeld, (Qb ac.out), (Qb ae.out), (Qb af.out), GW134.out, aC.out, NB119_134.out, NB134_119.out, NB120_134.out, NB134_120.out, (Qz HB.out ap.out ay.out aC.out)⟩)
         ·skip
          rintro ab w13 ⟨hS_, h0_, h1_, h2_, h3_, h4_, h5_, h6_, h7_, h8_, h9_⟩
          have aH : Aside0 (w13.heap[aa]? = some (.cells #[.string ak, .slice aq ah.length ar, .string al, .string am, .slice au ai.length av, .slice aA ag.length az, .slice aw aj.length ax, .string ao] 25 (0, 0))) := ⟨h0_⟩
          have aI : Aside0 (w13.heap[ad]? = some (.cells #[.string (⟨#[]⟩ : ByteArray), .slice none 0 0, .string (⟨#[]⟩ : ByteArray), .string (⟨#[]⟩ : ByteArray), .slice none 0 0, .slice none 0 0, .slice none 0 0, .string (⟨#[]⟩ : ByteArray)] 25 (0, 0))) := ⟨h1_⟩
          have aJ : Aside0 (w13.heap[ab]? = some (.cells #[.string (⟨#[]⟩ : ByteArray), .slice none 0 0, .string (⟨#[]⟩ : ByteArray), .string (⟨#[]⟩ : ByteArray), .slice none 0 0, .slice none 0 0, .slice none 0 0, .string (⟨#[]⟩ : ByteArray)] 25 (0, 0))) := ⟨h2_⟩
          have aR : Aside0 (w.heap.size ≤ ab) := ⟨h3_⟩
          have aV : Aside0 (w.heap.size ≤ ab) := ⟨h4_⟩
          have aW : Aside0 (aa ≠ ab) := ⟨h5_⟩
          have aZ : Aside0 (ab ≠ aa) := ⟨h6_⟩
          have a0 : Aside0 (ad ≠ ab) := ⟨h7_⟩
          have a1 : Aside0 (ab ≠ ad) := ⟨h8_⟩
          have a2 : Aside0 (Below w.heap.size w w13) := ⟨h9_⟩
          clear ac ae HB h0_ h1_ h2_ h3_ h4_ h5_ h6_ h7_ h8_ h9_
          have ac := aH; have ae := aI; have af := aJ; have GW134 := aR; have aC := aV; have NB119_134 := aW; have NB134_119 := aZ; have NB120_134 := a0; have NB134_120 := a1; have HB := a2
          clear aH aI aJ aR aV aW aZ a0 a1 a2
          have hHeld : w13.cell? ⟨aa, 0, none⟩ = some (.string ak) ∧ w13.cell? ⟨aa, 1, none⟩ = some (.slice aq ah.length ar) ∧ w13.cell? ⟨aa, 2, none⟩ = some (.string al) ∧ w13.cell? ⟨aa, 3, none⟩ = some (.string am) ∧ w13.cell? ⟨aa, 4, none⟩ = some (.slice au ai.length av) ∧ w13.cell? ⟨aa, 5, none⟩ = some (.slice aA ag.length az) ∧ w13.cell? ⟨aa, 6, none⟩ = some (.slice aw aj.length ax) ∧ w13.cell? ⟨aa, 7, none⟩ = some (.string ao) := hS_
          refine norm_ (a' := ?_) ?_ ?_
          rotate_left
          ·simp only [putAll, Act.put, sA_, sB_, sC_]
           rfl
          refine on_ (i := 11) (N := some 16) HT_ (bl_ 24 5095423) rfl rfl (fun K hK => ?_)
          refine goes_ Tryz.func15 (by kernel_rfl) rfl #[.string ao] (by rfl) rfl rfl Qm ?_
          with_reducible refine (isoglosslaw06_short.calls ao aY _ A5.out).mono ?_
          rintro e w' ⟨rfl, ⟨nd, rfl⟩⟩
          refine ⟨_, rfl, ?_⟩
          refine hK.out _ _ (C8_ ac.out) (fun hHeld => ?_)
          clear hK K
          refine nm_ (some 16) ?_
          exact norm_ (by first | (simp only [putAll, Act.put, sA_, sB_, sC_]; done) | (simp only [putAll, Act.put, sA_, sB_, sC_]; rfl)) (hJ2_5_8_11_22 (ab) _ ⟨hHeld, (Qb ac.out), (Qb ae.out), (Qb af.out), GW134.out, aC.out, NB119_134.out, NB134_119.out, NB120_134.out, NB134_120.out, (Qz HB.out ap.out ay.out aC.out)⟩)
        ·skip
         rintro _ w12 ⟨hS_, h0_, h1_, h2_⟩
         have aH : Aside0 (w12.heap[aa]? = some (.cells #[.string ak, .slice aq ah.length ar, .string al, .string am, .slice au ai.length av, .slice aA ag.length az, .slice aw aj.length ax, .string ao] 25 (0, 0))) := ⟨h0_⟩
         have aI : Aside0 (w12.heap[ad]? = some (.cells #[.string (⟨#[]⟩ : ByteArray), .slice none 0 0, .string (⟨#[]⟩ : ByteArray), .string (⟨#[]⟩ : ByteArray), .slice none 0 0, .slice none 0 0, .slice none 0 0, .string (⟨#[]⟩ : ByteArray)] 25 (0, 0))) := ⟨h1_⟩
         have aJ : Aside0 (Below w.heap.size w w12) := ⟨h2_⟩
         clear ac ae HB h0_ h1_ h2_
         have ac := aH; have ae := aI; have HB := aJ
         clear aH aI aJ
         have hHeld : w12.cell? ⟨aa, 0, none⟩ = some (.string ak) ∧ w12.cell? ⟨aa, 1, none⟩ = some (.slice aq ah.length ar) ∧ w12.cell? ⟨aa, 2, none⟩ = some (.string al) ∧ w12.cell? ⟨aa, 3, none⟩ = some (.string am) ∧ w12.cell? ⟨aa, 4, none⟩ = some (.slice au ai.length av) ∧ w12.cell? ⟨aa, 5, none⟩ = some (.slice aA ag.length az) ∧ w12.cell? ⟨aa, 6, none⟩ = some (.slice aw aj.length ax) ∧ w12.cell? ⟨aa, 7, none⟩ = some (.string ao) := hS_
         refine norm_ (a' := ?_) ?_ ?_
         rotate_left
         ·simp only [putAll, Act.put, sA_, sB_, sC_]
          rfl
         refine two_ (i := 14) (j := 22) (Ni := some 19) (Nj := some 3) #[true, true, true, true, true, true, true, true, true, true, true, true, true, true, true, true, true, false, true, true, false, false, false, false] #[true, true, true, true, true, true, true, true, true, true, true, true, true, true, false, true, true, false, true, true, false, false, true, false] rfl rfl rfl rfl (two_of HT_.out (by kernel_rfl)) (by decide) (by decide) (fun K hK => ?_) (fun K hK => ?_)
         ·skip
          refine goes_ Tryz.func16 (by kernel_rfl) rfl #[.slice aq ah.length ar] (by rfl) rfl rfl Qm ?_
          with_reducible refine (isoglosslaw06_row.calls k _ _ ah aE _ ?side1 ?side2 A6.out).mono ?_
          (case side1 => exact Qc (cB_ bC.out HB.out))
          (case side2 => exact bD.out)
          rintro e w13 ⟨v126, rfl, ho0, hb⟩
          refine ⟨_, rfl, ?_⟩
          have aH := Aside0.mk (Kd.R_lower ho0 (wZ_ (Qy HB.out ap.out ay.out)))
          have aI := Aside0.mk (blk_below (g := aa) (o := .cells #[.string ak, .slice aq ah.length ar, .string al, .string am, .slice au ai.length av, .slice aA ag.length az, .slice aw aj.length ax, .string ao] 25 (0, 0)) (Qb ac.out) hb)
          have aJ := Aside0.mk (blk_below (g := ad) (o := .cells #[.string (⟨#[]⟩ : ByteArray), .slice none 0 0, .string (⟨#[]⟩ : ByteArray), .string (⟨#[]⟩ : ByteArray), .slice none 0 0, .slice none 0 0, .slice none 0 0, .string (⟨#[]⟩ : ByteArray)] 25 (0, 0)) (Qb ae.out) hb)
          have aR := Aside0.mk (wT_ (Qy HB.out ap.out ay.out) hb)
          clear ac ae HB
          have aD := aH; have ac := aI; have ae := aJ; have HB := aR
          clear aH aI aJ aR
          (try clear hb); (try clear hb2); (try clear hk); (try clear hi); (try clear ho0)
          refine hK.out _ _ (C8_ ac.out) (fun hHeld => ?_)
          clear hK K
          refine nm_ (some 19) ?_
          exact norm_ (by first | (simp only [putAll, Act.put, sA_, sB_, sC_]; done) | (simp only [putAll, Act.put, sA_, sB_, sC_]; rfl)) (hJ2_5_8_11_14 (v126) _ ⟨hHeld, (Qr aD.out), (Qb ac.out), (Qb ae.out), (Qy HB.out ap.out ay.out)⟩)
         ·skip
          refine box_step ?hg (N := 3) ?hd (cs := #[.string (⟨#[]⟩ : ByteArray), .slice none 0 0, .string (⟨#[]⟩ : ByteArray), .string (⟨#[]⟩ : ByteArray), .slice none 0 0, .slice none 0 0, .slice none 0 0, .string (⟨#[]⟩ : ByteArray)]) (t := 25) ?hr ?_; (case hd => rfl); (case hg => rfl); (case hr => first | (go_simp; done) | (go_simp; rfl))
          intro ab hg w13 hbox hb
          have aH := Aside0.mk (blk_below (g := aa) (o := .cells #[.string ak, .slice aq ah.length ar, .string al, .string am, .slice au ai.length av, .slice aA ag.length az, .slice aw aj.length ax, .string ao] 25 (0, 0)) (Qb ac.out) hb)
          have aI := Aside0.mk (blk_below (g := ad) (o := .cells #[.string (⟨#[]⟩ : ByteArray), .slice none 0 0, .string (⟨#[]⟩ : ByteArray), .string (⟨#[]⟩ : ByteArray), .slice none 0 0, .slice none 0 0, .slice none 0 0, .string (⟨#[]⟩ : ByteArray)] 25 (0, 0)) (Qb ae.out) hb)
          have aJ := Aside0.mk (wT_ (Qy HB.out ap.out ay.out) hb)
          have aR := Aside0.mk (hbox)
          have aV := Aside0.mk ((by rw [hg]; exact (wZ_ (Qy HB.out ap.out ay.out)) : w.heap.size ≤ ab))
          have aW := Aside0.mk ((by rw [hg]; exact (wZ_ (Qy HB.out ap.out ay.out)) : w.heap.size ≤ ab))
          have aZ := Aside0.mk ((by rw [hg]; exact Nat.ne_of_lt (blk_lt (g := aa) (o := .cells #[.string ak, .slice aq ah.length ar, .string al, .string am, .slice au ai.length av, .slice aA ag.length az, .slice aw aj.length ax, .string ao] 25 (0, 0)) (Qb ac.out)) : aa ≠ ab))
          have a0 := Aside0.mk ((by rw [hg]; exact Nat.ne_of_gt (blk_lt (g := aa) (o := .cells #[.string ak, .slice aq ah.length ar, .string al, .string am, .slice au ai.length av, .slice aA ag.length az, .slice aw aj.length ax, .string ao] 25 (0, 0)) (Qb ac.out)) : ab ≠ aa))
          have a1 := Aside0.mk ((by rw [hg]; exact Nat.ne_of_lt (blk_lt (g := ad) (o := .cells #[.string (⟨#[]⟩ : ByteArray), .slice none 0 0, .string (⟨#[]⟩ : ByteArray), .string (⟨#[]⟩ : ByteArray), .slice none 0 0, .slice none 0 0, .slice none 0 0, .string (⟨#[]⟩ : ByteArray)] 25 (0, 0)) (Qb ae.out)) : ad ≠ ab))
          have a2 := Aside0.mk ((by rw [hg]; exact Nat.ne_of_gt (blk_lt (g := ad) (o := .cells #[.string (⟨#[]⟩ : ByteArray), .slice none 0 0, .string (⟨#[]⟩ : ByteArray), .string (⟨#[]⟩ : ByteArray), .slice none 0 0, .slice none 0 0, .slice none 0 0, .string (⟨#[]⟩ : ByteArray)] 25 (0, 0)) (Qb ae.out)) : ab ≠ ad))
          clear ac ae HB
          have ac := aH; have ae := aI; have HB := aJ; have af := aR; have GW134 := aV; have aC := aW; have NB119_134 := aZ; have NB134_119 := a0; have NB120_134 := a1; have NB134_120 := a2
          clear aH aI aJ aR aV aW aZ a0 a1 a2 hb hbox hg
          refine hK.out _ _ (C8_ ac.out) (fun hHeld => ?_)
          clear hK K
          refine nm_ (some 3) ?_
          exact norm_ (by first | (simp only [putAll, Act.put, sA_, sB_, sC_]; done) | (simp only [putAll, Act.put, sA_, sB_, sC_]; rfl)) (hJ2_5_8_11_22 (ab) _ ⟨hHeld, (Qb ac.out), (Qb ae.out), (Qb af.out), GW134.out, aC.out, NB119_134.out, NB134_119.out, NB120_134.out, NB134_120.out, (Qz HB.out ap.out ay.out aC.out)⟩)
       ·skip
        rintro ab w13 ⟨hS_, h0_, h1_, h2_, h3_, h4_, h5_, h6_, h7_, h8_, h9_⟩
        have aH : Aside0 (w13.heap[aa]? = some (.cells #[.string ak, .slice aq ah.length ar, .string al, .string am, .slice au ai.length av, .slice aA ag.length az, .slice aw aj.length ax, .string ao] 25 (0, 0))) := ⟨h0_⟩
        have aI : Aside0 (w13.heap[ad]? = some (.cells #[.string (⟨#[]⟩ : ByteArray), .slice none 0 0, .string (⟨#[]⟩ : ByteArray), .string (⟨#[]⟩ : ByteArray), .slice none 0 0, .slice none 0 0, .slice none 0 0, .string (⟨#[]⟩ : ByteArray)] 25 (0, 0))) := ⟨h1_⟩
        have aJ : Aside0 (w13.heap[ab]? = some (.cells #[.string (⟨#[]⟩ : ByteArray), .slice none 0 0, .string (⟨#[]⟩ : ByteArray), .string (⟨#[]⟩ : ByteArray), .slice none 0 0, .slice none 0 0, .slice none 0 0, .string (⟨#[]⟩ : ByteArray)] 25 (0, 0))) := ⟨h2_⟩
        have aR : Aside0 (w.heap.size ≤ ab) := ⟨h3_⟩
        have aV : Aside0 (w.heap.size ≤ ab) := ⟨h4_⟩
        have aW : Aside0 (aa ≠ ab) := ⟨h5_⟩
        have aZ : Aside0 (ab ≠ aa) := ⟨h6_⟩
        have a0 : Aside0 (ad ≠ ab) := ⟨h7_⟩
        have a1 : Aside0 (ab ≠ ad) := ⟨h8_⟩
        have a2 : Aside0 (Below w.heap.size w w13) := ⟨h9_⟩
        clear ac ae HB h0_ h1_ h2_ h3_ h4_ h5_ h6_ h7_ h8_ h9_
        have ac := aH; have ae := aI; have af := aJ; have GW134 := aR; have aC := aV; have NB119_134 := aW; have NB134_119 := aZ; have NB120_134 := a0; have NB134_120 := a1; have HB := a2
        clear aH aI aJ aR aV aW aZ a0 a1 a2
        have hHeld : w13.cell? ⟨aa, 0, none⟩ = some (.string ak) ∧ w13.cell? ⟨aa, 1, none⟩ = some (.slice aq ah.length ar) ∧ w13.cell? ⟨aa, 2, none⟩ = some (.string al) ∧ w13.cell? ⟨aa, 3, none⟩ = some (.string am) ∧ w13.cell? ⟨aa, 4, none⟩ = some (.slice au ai.length av) ∧ w13.cell? ⟨aa, 5, none⟩ = some (.slice aA ag.length az) ∧ w13.cell? ⟨aa, 6, none⟩ = some (.slice aw aj.length ax) ∧ w13.cell? ⟨aa, 7, none⟩ = some (.string ao) := hS_
        refine norm_ (a' := ?_) ?_ ?_
        rotate_left
        ·simp only [putAll, Act.put, sA_, sB_, sC_]
         rfl
        refine on_ (i := 14) (N := some 19) HT_ (bl_ 24 5111807) rfl rfl (fun K hK => ?_)
        refine goes_ Tryz.func16 (by kernel_rfl) rfl #[.slice aq ah.length ar] (by rfl) rfl rfl Qm ?_
        with_reducible refine (isoglosslaw06_row.calls k _ _ ah aE _ ?side1 ?side2 A6.out).mono ?_
        (case side1 => exact Qc (cB_ bC.out HB.out))
        (case side2 => exact bD.out)
        rintro e w14 ⟨v126, rfl, ho0, hb⟩
        refine ⟨_, rfl, ?_⟩
        have aH := Aside0.mk (Kd.R_lower ho0 (wZ_ (Qz HB.out ap.out ay.out aC.out)))
        have aI := Aside0.mk (blk_below (g := aa) (o := .cells #[.string ak, .slice aq ah.length ar, .string al, .string am, .slice au ai.length av, .slice aA ag.length az, .slice aw aj.length ax, .string ao] 25 (0, 0)) (Qb ac.out) hb)
        have aJ := Aside0.mk (blk_below (g := ad) (o := .cells #[.string (⟨#[]⟩ : ByteArray), .slice none 0 0, .string (⟨#[]⟩ : ByteArray), .string (⟨#[]⟩ : ByteArray), .slice none 0 0, .slice none 0 0, .slice none 0 0, .string (⟨#[]⟩ : ByteArray)] 25 (0, 0)) (Qb ae.out) hb)
        have aR := Aside0.mk (blk_below (g := ab) (o := .cells #[.string (⟨#[]⟩ : ByteArray), .slice none 0 0, .string (⟨#[]⟩ : ByteArray), .string (⟨#[]⟩ : ByteArray), .slice none 0 0, .slice none 0 0, .slice none 0 0, .string (⟨#[]⟩ : ByteArray)] 25 (0, 0)) (Qb af.out) hb)
        have aV := Aside0.mk (wT_ (Qz HB.out ap.out ay.out aC.out) hb)
        clear ac ae af HB
        have aD := aH; have ac := aI; have ae := aJ; have af := aR; have HB := aV
        clear aH aI aJ aR aV
        (try clear hb); (try clear hb2); (try clear hk); (try clear hi); (try clear ho0)
        refine hK.out _ _ (C8_ ac.out) (fun hHeld => ?_)
        clear hK K
        refine nm_ (some 19) ?_
        exact norm_ (by first | (simp only [putAll, Act.put, sA_, sB_, sC_]; done) | (simp only [putAll, Act.put, sA_, sB_, sC_]; rfl)) (hJ2_5_8_11_14_22 (v126, ab) _ ⟨hHeld, (Qr aD.out), (Qb ac.out), (Qb ae.out), (Qb af.out), GW134.out, aC.out, NB119_134.out, NB134_119.out, NB120_134.out, NB134_120.out, (Qz HB.out ap.out ay.out aC.out)⟩)
      ·skip
       rintro v126 w13 ⟨hS_, h0_, h1_, h2_, h3_⟩
       have aH : Aside0 (Kd.R Kd.string 9 w13 w.heap.size (fun _ => True) v126 aE) := ⟨h0_⟩
       have aI : Aside0 (w13.heap[aa]? = some (.cells #[.string ak, .slice aq ah.length ar, .string al, .string am, .slice au ai.length av, .slice aA ag.length az, .slice aw aj.length ax, .string ao] 25 (0, 0))) := ⟨h1_⟩
       have aJ : Aside0 (w13.heap[ad]? = some (.cells #[.string (⟨#[]⟩ : ByteArray), .slice none 0 0, .string (⟨#[]⟩ : ByteArray), .string (⟨#[]⟩ : ByteArray), .slice none 0 0, .slice none 0 0, .slice none 0 0, .string (⟨#[]⟩ : ByteArray)] 25 (0, 0))) := ⟨h2_⟩
       have aR : Aside0 (Below w.heap.size w w13) := ⟨h3_⟩
       clear ac ae HB h0_ h1_ h2_ h3_
       have aD := aH; have ac := aI; have ae := aJ; have HB := aR
       clear aH aI aJ aR
       have hHeld : w13.cell? ⟨aa, 0, none⟩ = some (.string ak) ∧ w13.cell? ⟨aa, 1, none⟩ = some (.slice aq ah.length ar) ∧ w13.cell? ⟨aa, 2, none⟩ = some (.string al) ∧ w13.cell? ⟨aa, 3, none⟩ = some (.string am) ∧ w13.cell? ⟨aa, 4, none⟩ = some (.slice au ai.length av) ∧ w13.cell? ⟨aa, 5, none⟩ = some (.slice aA ag.length az) ∧ w13.cell? ⟨aa, 6, none⟩ = some (.slice aw aj.length ax) ∧ w13.cell? ⟨aa, 7, none⟩ = some (.string ao) := hS_
       refine norm_ (a' := ?_) ?_ ?_
       rotate_left
       ·simp only [putAll, Act.put, sA_, sB_, sC_]
        rfl
       refine two_ (i := 17) (j := 22) (Ni := some 22) (Nj := some 3) #[true, true, true, true, true, true, true, true, true, true, true, true, true, true, true, true, true, true, true, true, false, false, false, false] #[true, true, true, true, true, true, true, true, true, true, true, true, true, true, true, true, true, false, true, true, false, false, true, false] rfl rfl rfl rfl (two_of HT_.out (by kernel_rfl)) (by decide) (by decide) (fun K hK => ?_) (fun K hK => ?_)
       ·skip
        refine goes_ Tryz.func16 (by kernel_rfl) rfl #[.slice au ai.length av] (by rfl) rfl rfl Qm ?_
        with_reducible refine (isoglosslaw06_row.calls k _ _ ai aM _ ?side1 ?side2 A7.out).mono ?_
        (case side1 => exact Qc (cB_ bE.out HB.out))
        (case side2 => exact bF.out)
        rintro e w14 ⟨v129, rfl, ho0, hb⟩
        refine ⟨_, rfl, ?_⟩
        have aH := Aside0.mk (rL_ (Qr aD.out) (Kd.R_base ho0) hb)
        have aI := Aside0.mk (Kd.R_lower (Kd.R_new' ho0 (rT_ (Qr aD.out))) (wZ_ (Qy HB.out ap.out ay.out)))
        have aJ := Aside0.mk (blk_below (g := aa) (o := .cells #[.string ak, .slice aq ah.length ar, .string al, .string am, .slice au ai.length av, .slice aA ag.length az, .slice aw aj.length ax, .string ao] 25 (0, 0)) (Qb ac.out) hb)
        have aR := Aside0.mk (blk_below (g := ad) (o := .cells #[.string (⟨#[]⟩ : ByteArray), .slice none 0 0, .string (⟨#[]⟩ : ByteArray), .string (⟨#[]⟩ : ByteArray), .slice none 0 0, .slice none 0 0, .slice none 0 0, .string (⟨#[]⟩ : ByteArray)] 25 (0, 0)) (Qb ae.out) hb)
        have aV := Aside0.mk (wT_ (Qy HB.out ap.out ay.out) hb)
        clear aD ac ae HB
        have aD := aH; have aN := aI; have ac := aJ; have ae := aR; have HB := aV
        clear aH aI aJ aR aV
        (try clear hb); (try clear hb2); (try clear hk); (try clear hi); (try clear ho0)
        refine hK.out _ _ (C8_ ac.out) (fun hHeld => ?_)
        clear hK K
        refine nm_ (some 22) ?_
        exact norm_ (by first | (simp only [putAll, Act.put, sA_, sB_, sC_]; done) | (simp only [putAll, Act.put, sA_, sB_, sC_]; rfl)) (hJ2_5_8_11_14_17 (v126, v129) _ ⟨hHeld, (by (with_reducible repeat (first | apply rA_ | apply rN_ | apply rD_)); exact rM_ aD.out (fun _ hk => hk.2)), (by (with_reducible repeat (first | apply rA_ | apply rN_ | apply rD_)); exact rM_ aN.out (fun _ hk => hk.2)), (Qb ac.out), (Qb ae.out), (Qy HB.out ap.out ay.out)⟩)
       ·skip
        refine box_step ?hg (N := 3) ?hd (cs := #[.string (⟨#[]⟩ : ByteArray), .slice none 0 0, .string (⟨#[]⟩ : ByteArray), .string (⟨#[]⟩ : ByteArray), .slice none 0 0, .slice none 0 0, .slice none 0 0, .string (⟨#[]⟩ : ByteArray)]) (t := 25) ?hr ?_; (case hd => rfl); (case hg => rfl); (case hr => first | (go_simp; done) | (go_simp; rfl))
        intro ab hg w14 hbox hb
        have aH := Aside0.mk (Kd.R_below (Qr aD.out) hb)
        have aI := Aside0.mk (blk_below (g := aa) (o := .cells #[.string ak, .slice aq ah.length ar, .string al, .string am, .slice au ai.length av, .slice aA ag.length az, .slice aw aj.length ax, .string ao] 25 (0, 0)) (Qb ac.out) hb)
        have aJ := Aside0.mk (blk_below (g := ad) (o := .cells #[.string (⟨#[]⟩ : ByteArray), .slice none 0 0, .string (⟨#[]⟩ : ByteArray), .string (⟨#[]⟩ : ByteArray), .slice none 0 0, .slice none 0 0, .slice none 0 0, .string (⟨#[]⟩ : ByteArray)] 25 (0, 0)) (Qb ae.out) hb)
        have aR := Aside0.mk (wT_ (Qy HB.out ap.out ay.out) hb)
        have aV := Aside0.mk (hbox)
        have aW := Aside0.mk ((by rw [hg]; exact (wZ_ (Qy HB.out ap.out ay.out)) : w.heap.size ≤ ab))
        have aZ := Aside0.mk ((by rw [hg]; exact (wZ_ (Qy HB.out ap.out ay.out)) : w.heap.size ≤ ab))
        have a0 := Aside0.mk ((by rw [hg]; exact Nat.ne_of_lt (blk_lt (g := aa) (o := .cells #[.string ak, .slice aq ah.length ar, .string al, .string am, .slice au ai.length av, .slice aA ag.length az, .slice aw aj.length ax, .string ao] 25 (0, 0)) (Qb ac.out)) : aa ≠ ab))
        have a1 := Aside0.mk ((by rw [hg]; exact Nat.ne_of_gt (blk_lt (g := aa) (o := .cells #[.string ak, .slice aq ah.length ar, .string al, .string am, .slice au ai.length av, .slice aA ag.length az, .slice aw aj.length ax, .string ao] 25 (0, 0)) (Qb ac.out)) : ab ≠ aa))
        have a2 := Aside0.mk ((by rw [hg]; exact Nat.ne_of_lt (blk_lt (g := ad) (o := .cells #[.string (⟨#[]⟩ : ByteArray), .slice none 0 0, .string (⟨#[]⟩ : ByteArray), .string (⟨#[]⟩ : ByteArray), .slice none 0 0, .slice none 0 0, .slice none 0 0, .string (⟨#[]⟩ : ByteArray)] 25 (0, 0)) (Qb ae.out)) : ad ≠ ab))
        have a5 := Aside0.mk ((by rw [hg]; exact Nat.ne_of_gt (blk_lt (g := ad) (o := .cells #[.string (⟨#[]⟩ : ByteArray), .slice none 0 0, .string (⟨#[]⟩ : ByteArray), .string (⟨#[]⟩ : ByteArray), .slice none 0 0, .slice none 0 0, .slice none 0 0, .string (⟨#[]⟩ : ByteArray)] 25 (0, 0)) (Qb ae.out)) : ab ≠ ad))
        clear aD ac ae HB
        have aD := aH; have ac := aI; have ae := aJ; have HB := aR; have af := aV; have GW134 := aW; have aC := aZ; have NB119_134 := a0; have NB134_119 := a1; have NB120_134 := a2; have NB134_120 := a5
        clear aH aI aJ aR aV aW aZ a0 a1 a2 a5 hb hbox hg
        refine hK.out _ _ (C8_ ac.out) (fun hHeld => ?_)
        clear hK K
        refine nm_ (some 3) ?_
        exact norm_ (by first | (simp only [putAll, Act.put, sA_, sB_, sC_]; done) | (simp only [putAll, Act.put, sA_, sB_, sC_]; rfl)) (hJ2_5_8_11_14_22 (v126, ab) _ ⟨hHeld, (Qr aD.out), (Qb ac.out), (Qb ae.out), (Qb af.out), GW134.out, aC.out, NB119_134.out, NB134_119.out, NB120_134.out, NB134_120.out, (Qz HB.out ap.out ay.out aC.out)⟩)
     ·skip
      rintro ⟨v126, ab⟩ w14 ⟨hS_, h0_, h1_, h2_, h3_, h4_, h5_, h6_, h7_, h8_, h9_, h10_⟩
      have aH : Aside0 (Kd.R Kd.string 9 w14 w.heap.size (fun _ => True) v126 aE) := ⟨h0_⟩
      have aI : Aside0 (w14.heap[aa]? = some (.cells #[.string ak, .slice aq ah.length ar, .string al, .string am, .slice au ai.length av, .slice aA ag.length az, .slice aw aj.length ax, .string ao] 25 (0, 0))) := ⟨h1_⟩
      have aJ : Aside0 (w14.heap[ad]? = some (.cells #[.string (⟨#[]⟩ : ByteArray), .slice none 0 0, .string (⟨#[]⟩ : ByteArray), .string (⟨#[]⟩ : ByteArray), .slice none 0 0, .slice none 0 0, .slice none 0 0, .string (⟨#[]⟩ : ByteArray)] 25 (0, 0))) := ⟨h2_⟩
      have aR : Aside0 (w14.heap[ab]? = some (.cells #[.string (⟨#[]⟩ : ByteArray), .slice none 0 0, .string (⟨#[]⟩ : ByteArray), .string (⟨#[]⟩ : ByteArray), .slice none 0 0, .slice none 0 0, .slice none 0 0, .string (⟨#[]⟩ : ByteArray)] 25 (0, 0))) := ⟨h3_⟩
      have aV : Aside0 (w.heap.size ≤ ab) := ⟨h4_⟩
      have aW : Aside0 (w.heap.size ≤ ab) := ⟨h5_⟩
      have aZ : Aside0 (aa ≠ ab) := ⟨h6_⟩
      have a0 : Aside0 (ab ≠ aa) := ⟨h7_⟩
      have a1 : Aside0 (ad ≠ ab) := ⟨h8_⟩
      have a2 : Aside0 (ab ≠ ad) := ⟨h9_⟩
      have a5 : Aside0 (Below w.heap.size w w14) := ⟨h10_⟩
      clear ac ae HB h0_ h1_ h2_ h3_ h4_ h5_ h6_ h7_ h8_ h9_ h10_
      have aD := aH; have ac := aI; have ae := aJ; have af := aR; have GW134 := aV; have aC := aW; have NB119_134 := aZ; have NB134_119 := a0; have NB120_134 := a1; have NB134_120 := a2; have HB := a5
      clear aH aI aJ aR aV aW aZ a0 a1 a2 a5
      have hHeld : w14.cell? ⟨aa, 0, none⟩ = some (.string ak) ∧ w14.cell? ⟨aa, 1, none⟩ = some (.slice aq ah.length ar) ∧ w14.cell? ⟨aa, 2, none⟩ = some (.string al) ∧ w14.cell? ⟨aa, 3, none⟩ = some (.string am) ∧ w14.cell? ⟨aa, 4, none⟩ = some (.slice au ai.length av) ∧ w14.cell? ⟨aa, 5, none⟩ = some (.slice aA ag.length az) ∧ w14.cell? ⟨aa, 6, none⟩ = some (.slice aw aj.length ax) ∧ w14.cell? ⟨aa, 7, none⟩ = some (.string ao) := hS_
      refine norm_ (a' := ?_) ?_ ?_
      rotate_left
      ·simp only [putAll, Act.put, sA_, sB_, sC_]
       rfl
      refine on_ (i := 17) (N := some 22) HT_ (bl_ 24 5242879) rfl rfl (fun K hK => ?_)
      refine goes_ Tryz.func16 (by kernel_rfl) rfl #[.slice au ai.length av] (by rfl) rfl rfl Qm ?_
      with_reducible refine (isoglosslaw06_row.calls k _ _ ai aM _ ?side1 ?side2 A7.out).mono ?_
      (case side1 => exact Qc (cB_ bE.out HB.out))
      (case side2 => exact bF.out)
      rintro e w15 ⟨v129, rfl, ho0, hb⟩
      refine ⟨_, rfl, ?_⟩
      have aH := Aside0.mk (rL_ (Qr aD.out) (Kd.R_base ho0) hb)
      have aI := Aside0.mk (Kd.R_lower (Kd.R_new' ho0 (rT_ (Qr aD.out))) (wZ_ (Qz HB.out ap.out ay.out aC.out)))
      have aJ := Aside0.mk (blk_below (g := aa) (o := .cells #[.string ak, .slice aq ah.length ar, .string al, .string am, .slice au ai.length av, .slice aA ag.length az, .slice aw aj.length ax, .string ao] 25 (0, 0)) (Qb ac.out) hb)
      have aR := Aside0.mk (blk_below (g := ad) (o := .cells #[.string (⟨#[]⟩ : ByteArray), .slice none 0 0, .string (⟨#[]⟩ : ByteArray), .string (⟨#[]⟩ : ByteArray), .slice none 0 0, .slice none 0 0, .slice none 0 0, .string (⟨#[]⟩ : ByteArray)] 25 (0, 0)) (Qb ae.out) hb)
      have aV := Aside0.mk (blk_below (g := ab) (o := .cells #[.string (⟨#[]⟩ : ByteArray), .slice none 0 0, .string (⟨#[]⟩ : ByteArray), .string (⟨#[]⟩ : ByteArray), .slice none 0 0, .slice none 0 0, .slice none 0 0, .string (⟨#[]⟩ : ByteArray)] 25 (0, 0)) (Qb af.out) hb)
      have aW := Aside0.mk (wT_ (Qz HB.out ap.out ay.out aC.out) hb)
      clear aD ac ae af HB
      have aD := aH; have aN := aI; have ac := aJ; have ae := aR; have af := aV; have HB := aW
      clear aH aI aJ aR aV aW
      (try clear hb); (try clear hb2); (try clear hk); (try clear hi); (try clear ho0)
      refine hK.out _ _ (C8_ ac.out) (fun hHeld => ?_)
      clear hK K
      refine nm_ (some 22) ?_
      exact norm_ (by first | (simp only [putAll, Act.put, sA_, sB_, sC_]; done) | (simp only [putAll, Act.put, sA_, sB_, sC_]; rfl)) (hJ2_5_8_11_14_17_22 (v126, v129, ab) _ ⟨hHeld, (by (with_reducible repeat (first | apply rA_ | apply rN_ | apply rD_)); exact rM_ aD.out (fun _ hk => hk.2)), (by (with_reducible repeat (first | apply rA_ | apply rN_ | apply rD_)); exact rM_ aN.out (fun _ hk => hk.2)), (Qb ac.out), (Qb ae.out), (Qb af.out), GW134.out, aC.out, NB119_134.out, NB134_119.out, NB120_134.out, NB134_120.out, (Qz HB.out ap.out ay.out aC.out)⟩)
    ·skip
     rintro ⟨v126, v129⟩ w14 ⟨hS_, h0_, h1_, h2_, h3_, h4_⟩
     have aH : Aside0 (Kd.R Kd.string 9 w14 w.heap.size (fun k_ => some k_ ≠ (v129 : Value).ownBlock) v126 aE) := ⟨h0_⟩
     have aI : Aside0 (Kd.R Kd.string 9 w14 w.heap.size (fun k_ => some k_ ≠ (v126 : Value).ownBlock) v129 aM) := ⟨h1_⟩
     have aJ : Aside0 (w14.heap[aa]? = some (.cells #[.string ak, .slice aq ah.length ar, .string al, .string am, .slice au ai.length av, .slice aA ag.length az, .slice aw aj.length ax, .string ao] 25 (0, 0))) := ⟨h2_⟩
     have aR : Aside0 (w14.heap[ad]? = some (.cells #[.string (⟨#[]⟩ : ByteArray), .slice none 0 0, .string (⟨#[]⟩ : ByteArray), .string (⟨#[]⟩ : ByteArray), .slice none 0 0, .slice none 0 0, .slice none 0 0, .string (⟨#[]⟩ : ByteArray)] 25 (0, 0))) := ⟨h3_⟩
     have aV : Aside0 (Below w.heap.size w w14) := ⟨h4_⟩
     clear ac ae HB h0_ h1_ h2_ h3_ h4_
     have aD := aH; have aN := aI; have ac := aJ; have ae := aR; have HB := aV
     clear aH aI aJ aR aV
     have hHeld : w14.cell? ⟨aa, 0, none⟩ = some (.string ak) ∧ w14.cell? ⟨aa, 1, none⟩ = some (.slice aq ah.length ar) ∧ w14.cell? ⟨aa, 2, none⟩ = some (.string al) ∧ w14.cell? ⟨aa, 3, none⟩ = some (.string am) ∧ w14.cell? ⟨aa, 4, none⟩ = some (.slice au ai.length av) ∧ w14.cell? ⟨aa, 5, none⟩ = some (.slice aA ag.length az) ∧ w14.cell? ⟨aa, 6, none⟩ = some (.slice aw aj.length ax) ∧ w14.cell? ⟨aa, 7, none⟩ = some (.string ao) := hS_
     refine norm_ (a' := ?_) ?_ ?_
     rotate_left
     ·simp only [putAll, Act.put, sA_, sB_, sC_]
      rfl
     refine two_ (i := 20) (j := 22) (Ni := some 25) (Nj := some 3) #[true, true, true, true, true, true, true, true, true, true, true, true, true, true, true, true, true, true, true, true, true, false, false, false] #[true, true, true, true, true, true, true, true, true, true, true, true, true, true, true, true, true, true, true, true, false, false, true, false] rfl rfl rfl rfl (two_of HT_.out (by kernel_rfl)) (by decide) (by decide) (fun K hK => ?_) (fun K hK => ?_)
     ·skip
      refine goes_ Tryz.func16 (by kernel_rfl) rfl #[.slice aw aj.length ax] (by rfl) rfl rfl Qm ?_
      with_reducible refine (isoglosslaw06_row.calls k _ _ aj aT _ ?side1 ?side2 A8.out).mono ?_
      (case side1 => exact Qc (cB_ bH.out HB.out))
      (case side2 => exact bI.out)
      rintro e w15 ⟨v132, rfl, ho0, hb⟩
      refine ⟨_, rfl, ?_⟩
      have aH := Aside0.mk (rL_ (Qr aD.out) (Kd.R_base ho0) hb)
      have aI := Aside0.mk (rL_ (Qr aN.out) (Kd.R_base ho0) hb)
      have aJ := Aside0.mk (Kd.R_lower (Kd.R_new' (Kd.R_new' ho0 (rT_ (Qr aD.out))) (rT_ (Qr aN.out))) (wZ_ (Qy HB.out ap.out ay.out)))
      have aR := Aside0.mk (blk_below (g := aa) (o := .cells #[.string ak, .slice aq ah.length ar, .string al, .string am, .slice au ai.length av, .slice aA ag.length az, .slice aw aj.length ax, .string ao] 25 (0, 0)) (Qb ac.out) hb)
      have aV := Aside0.mk (blk_below (g := ad) (o := .cells #[.string (⟨#[]⟩ : ByteArray), .slice none 0 0, .string (⟨#[]⟩ : ByteArray), .string (⟨#[]⟩ : ByteArray), .slice none 0 0, .slice none 0 0, .slice none 0 0, .string (⟨#[]⟩ : ByteArray)] 25 (0, 0)) (Qb ae.out) hb)
      have aW := Aside0.mk (wT_ (Qy HB.out ap.out ay.out) hb)
      clear aD aN ac ae HB
      have aD := aH; have aN := aI; have a4 := aJ; have ac := aR; have ae := aV; have HB := aW
      clear aH aI aJ aR aV aW
      (try clear hb); (try clear hb2); (try clear hk); (try clear hi); (try clear ho0)
      obtain ⟨Ao16, co16, eo16⟩ := Kd.R_slice a4.out
      (first | subst eo16 | (injection eo16 with f1_ f2_ f3_; have f4_ := f1_.symm; have f5_ := f3_.symm; clear f1_ f2_ f3_; subst f4_; subst f5_))
      obtain ⟨Ao17, co17, eo17⟩ := Kd.R_slice aN.out
      (first | subst eo17 | (injection eo17 with f1_ f2_ f3_; have f4_ := f1_.symm; have f5_ := f3_.symm; clear f1_ f2_ f3_; subst f4_; subst f5_))
      obtain ⟨Ao18, co18, eo18⟩ := Kd.R_slice aD.out
      (first | subst eo18 | (injection eo18 with f1_ f2_ f3_; have f4_ := f1_.symm; have f5_ := f3_.symm; clear f1_ f2_ f3_; subst f4_; subst f5_))
      refine hK.out _ _ (C8_ ac.out) (fun hHeld => ?_)
      clear hK K
      refine nm_ (some 25) ?_
      refine pu_ (i := 21) (N := some 26) HT_ (bl_ 24 4194303) ?_
      exact norm_ (by first | (simp only [putAll, Act.put, sA_, sB_, sC_]; done) | (simp only [putAll, Act.put, sA_, sB_, sC_]; rfl)) (hJ2_5_8_11_14_17_20 (.slice Ao18 aE.length co18, .slice Ao17 aM.length co17, .slice Ao16 aT.length co16) _ ⟨hHeld, (Qr aD.out), (Qr aN.out), (by (with_reducible repeat (first | apply rA_ | apply rN_ | apply rD_)); exact rM_ a4.out (fun _ hk => ⟨hk.1.2, hk.2⟩)), (Qb ac.out), (Qb ae.out), (Qy HB.out ap.out ay.out)⟩)
     ·skip
      refine box_step ?hg (N := 3) ?hd (cs := #[.string (⟨#[]⟩ : ByteArray), .slice none 0 0, .string (⟨#[]⟩ : ByteArray), .string (⟨#[]⟩ : ByteArray), .slice none 0 0, .slice none 0 0, .slice none 0 0, .string (⟨#[]⟩ : ByteArray)]) (t := 25) ?hr ?_; (case hd => rfl); (case hg => rfl); (case hr => first | (go_simp; done) | (go_simp; rfl))
      intro ab hg w15 hbox hb
      have aH := Aside0.mk (Kd.R_below (Qr aD.out) hb)
      have aI := Aside0.mk (Kd.R_below (Qr aN.out) hb)
      have aJ := Aside0.mk (blk_below (g := aa) (o := .cells #[.string ak, .slice aq ah.length ar, .string al, .string am, .slice au ai.length av, .slice aA ag.length az, .slice aw aj.length ax, .string ao] 25 (0, 0)) (Qb ac.out) hb)
      have aR := Aside0.mk (blk_below (g := ad) (o := .cells #[.string (⟨#[]⟩ : ByteArray), .slice none 0 0, .string (⟨#[]⟩ : ByteArray), .string (⟨#[]⟩ : ByteArray), .slice none 0 0, .slice none 0 0, .slice none 0 0, .string (⟨#[]⟩ : ByteArray)] 25 (0, 0)) (Qb ae.out) hb)
      have aV := Aside0.mk (wT_ (Qy HB.out ap.out ay.out) hb)
      have aW := Aside0.mk (hbox)
      have aZ := Aside0.mk ((by rw [hg]; exact (wZ_ (Qy HB.out ap.out ay.out)) : w.heap.size ≤ ab))
      have a0 := Aside0.mk ((by rw [hg]; exact (wZ_ (Qy HB.out ap.out ay.out)) : w.heap.size ≤ ab))
      have a1 := Aside0.mk ((by rw [hg]; exact Nat.ne_of_lt (blk_lt (g := aa) (o := .cells #[.string ak, .slice aq ah.length ar, .string al, .string am, .slice au ai.length av, .slice aA ag.length az, .slice aw aj.length ax, .string ao] 25 (0, 0)) (Qb ac.out)) : aa ≠ ab))
      have a2 := Aside0.mk ((by rw [hg]; exact Nat.ne_of_gt (blk_lt (g := aa) (o := .cells #[.string ak, .slice aq ah.length ar, .string al, .string am, .slice au ai.length av, .slice aA ag.length az, .slice aw aj.length ax, .string ao] 25 (0, 0)) (Qb ac.out)) : ab ≠ aa))
      have a5 := Aside0.mk ((by rw [hg]; exact Nat.ne_of_lt (blk_lt (g := ad) (o := .cells #[.string (⟨#[]⟩ : ByteArray), .slice none 0 0, .string (⟨#[]⟩ : ByteArray), .string (⟨#[]⟩ : ByteArray), .slice none 0 0, .slice none 0 0, .slice none 0 0, .string (⟨#[]⟩ : ByteArray)] 25 (0, 0)) (Qb ae.out)) : ad ≠ ab))
      have bm := Aside0.mk ((by rw [hg]; exact Nat.ne_of_gt (blk_lt (g := ad) (o := .cells #[.string (⟨#[]⟩ : ByteArray), .slice none 0 0, .string (⟨#[]⟩ : ByteArray), .string (⟨#[]⟩ : ByteArray), .slice none 0 0, .slice none 0 0, .slice none 0 0, .string (⟨#[]⟩ : ByteArray)] 25 (0, 0)) (Qb ae.out)) : ab ≠ ad))
      clear aD aN ac ae HB
      have aD := aH; have aN := aI; have ac := aJ; have ae := aR; have HB := aV; have af := aW; have GW134 := aZ; have aC := a0; have NB119_134 := a1; have NB134_119 := a2; have NB120_134 := a5; have NB134_120 := bm
      clear aH aI aJ aR aV aW aZ a0 a1 a2 a5 bm hb hbox hg
      refine hK.out _ _ (C8_ ac.out) (fun hHeld => ?_)
      clear hK K
      refine nm_ (some 3) ?_
      exact norm_ (by first | (simp only [putAll, Act.put, sA_, sB_, sC_]; done) | (simp only [putAll, Act.put, sA_, sB_, sC_]; rfl)) (hJ2_5_8_11_14_17_22 (v126, v129, ab) _ ⟨hHeld, (Qr aD.out), (Qr aN.out), (Qb ac.out), (Qb ae.out), (Qb af.out), GW134.out, aC.out, NB119_134.out, NB134_119.out, NB120_134.out, NB134_120.out, (Qz HB.out ap.out ay.out aC.out)⟩)
   ·skip
    rintro ⟨v126, v129, ab⟩ w15 ⟨hS_, h0_, h1_, h2_, h3_, h4_, h5_, h6_, h7_, h8_, h9_, h10_, h11_⟩
    have aH : Aside0 (Kd.R Kd.string 9 w15 w.heap.size (fun k_ => some k_ ≠ (v129 : Value).ownBlock) v126 aE) := ⟨h0_⟩
    have aI : Aside0 (Kd.R Kd.string 9 w15 w.heap.size (fun k_ => some k_ ≠ (v126 : Value).ownBlock) v129 aM) := ⟨h1_⟩
    have aJ : Aside0 (w15.heap[aa]? = some (.cells #[.string ak, .slice aq ah.length ar, .string al, .string am, .slice au ai.length av, .slice aA ag.length az, .slice aw aj.length ax, .string ao] 25 (0, 0))) := ⟨h2_⟩
    have aR : Aside0 (w15.heap[ad]? = some (.cells #[.string (⟨#[]⟩ : ByteArray), .slice none 0 0, .string (⟨#[]⟩ : ByteArray), .string (⟨#[]⟩ : ByteArray), .slice none 0 0, .slice none 0 0, .slice none 0 0, .string (⟨#[]⟩ : ByteArray)] 25 (0, 0))) := ⟨h3_⟩
    have aV : Aside0 (w15.heap[ab]? = some (.cells #[.string (⟨#[]⟩ : ByteArray), .slice none 0 0, .string (⟨#[]⟩ : ByteArray), .string (⟨#[]⟩ : ByteArray), .slice none 0 0, .slice none 0 0, .slice none 0 0, .string (⟨#[]⟩ : ByteArray)] 25 (0, 0))) := ⟨h4_⟩
    have aW : Aside0 (w.heap.size ≤ ab) := ⟨h5_⟩
    have aZ : Aside0 (w.heap.size ≤ ab) := ⟨h6_⟩
    have a0 : Aside0 (aa ≠ ab) := ⟨h7_⟩
    have a1 : Aside0 (ab ≠ aa) := ⟨h8_⟩
    have a2 : Aside0 (ad ≠ ab) := ⟨h9_⟩
    have a5 : Aside0 (ab ≠ ad) := ⟨h10_⟩
    have bm : Aside0 (Below w.heap.size w w15) := ⟨h11_⟩
    clear ac ae HB h0_ h1_ h2_ h3_ h4_ h5_ h6_ h7_ h8_ h9_ h10_ h11_
    have aD := aH; have aN := aI; have ac := aJ; have ae := aR; have af := aV; have GW134 := aW; have aC := aZ; have NB119_134 := a0; have NB134_119 := a1; have NB120_134 := a2; have NB134_120 := a5; have HB := bm
    clear aH aI aJ aR aV aW aZ a0 a1 a2 a5 bm
    have hHeld : w15.cell? ⟨aa, 0, none⟩ = some (.string ak) ∧ w15.cell? ⟨aa, 1, none⟩ = some (.slice aq ah.length ar) ∧ w15.cell? ⟨aa, 2, none⟩ = some (.string al) ∧ w15.cell? ⟨aa, 3, none⟩ = some (.string am) ∧ w15.cell? ⟨aa, 4, none⟩ = some (.slice au ai.length av) ∧ w15.cell? ⟨aa, 5, none⟩ = some (.slice aA ag.length az) ∧ w15.cell? ⟨aa, 6, none⟩ = some (.slice aw aj.length ax) ∧ w15.cell? ⟨aa, 7, none⟩ = some (.string ao) := hS_
    refine norm_ (a' := ?_) ?_ ?_
    rotate_left
    ·simp only [putAll, Act.put, sA_, sB_, sC_]
     rfl
    refine on_ (i := 20) (N := some 25) HT_ (bl_ 24 6291455) rfl rfl (fun K hK => ?_)
    refine goes_ Tryz.func16 (by kernel_rfl) rfl #[.slice aw aj.length ax] (by rfl) rfl rfl Qm ?_
    with_reducible refine (isoglosslaw06_row.calls k _ _ aj aT _ ?side1 ?side2 A8.out).mono ?_
    (case side1 => exact Qc (cB_ bH.out HB.out))
    (case side2 => exact bI.out)
    rintro e w16 ⟨v132, rfl, ho0, hb⟩
    refine ⟨_, rfl, ?_⟩
    have aH := Aside0.mk (rL_ (Qr aD.out) (Kd.R_base ho0) hb)
    have aI := Aside0.mk (rL_ (Qr aN.out) (Kd.R_base ho0) hb)
    have aJ := Aside0.mk (Kd.R_lower (Kd.R_new' (Kd.R_new' ho0 (rT_ (Qr aD.out))) (rT_ (Qr aN.out))) (wZ_ (Qz HB.out ap.out ay.out aC.out)))
    have aR := Aside0.mk (blk_below (g := aa) (o := .cells #[.string ak, .slice aq ah.length ar, .string al, .string am, .slice au ai.length av, .slice aA ag.length az, .slice aw aj.length ax, .string ao] 25 (0, 0)) (Qb ac.out) hb)
    have aV := Aside0.mk (blk_below (g := ad) (o := .cells #[.string (⟨#[]⟩ : ByteArray), .slice none 0 0, .string (⟨#[]⟩ : ByteArray), .string (⟨#[]⟩ : ByteArray), .slice none 0 0, .slice none 0 0, .slice none 0 0, .string (⟨#[]⟩ : ByteArray)] 25 (0, 0)) (Qb ae.out) hb)
    have aW := Aside0.mk (blk_below (g := ab) (o := .cells #[.string (⟨#[]⟩ : ByteArray), .slice none 0 0, .string (⟨#[]⟩ : ByteArray), .string (⟨#[]⟩ : ByteArray), .slice none 0 0, .slice none 0 0, .slice none 0 0, .string (⟨#[]⟩ : ByteArray)] 25 (0, 0)) (Qb af.out) hb)
    have aZ := Aside0.mk (wT_ (Qz HB.out ap.out ay.out aC.out) hb)
    clear aD aN ac ae af HB
    have aD := aH; have aN := aI; have a4 := aJ; have ac := aR; have ae := aV; have af := aW; have HB := aZ
    clear aH aI aJ aR aV aW aZ
    (try clear hb); (try clear hb2); (try clear hk); (try clear hi); (try clear ho0)
    obtain ⟨Ao17, co17, eo17⟩ := Kd.R_slice a4.out
    (first | subst eo17 | (injection eo17 with f1_ f2_ f3_; have f4_ := f1_.symm; have f5_ := f3_.symm; clear f1_ f2_ f3_; subst f4_; subst f5_))
    obtain ⟨Ao18, co18, eo18⟩ := Kd.R_slice aN.out
    (first | subst eo18 | (injection eo18 with f1_ f2_ f3_; have f4_ := f1_.symm; have f5_ := f3_.symm; clear f1_ f2_ f3_; subst f4_; subst f5_))
    obtain ⟨Ao19, co19, eo19⟩ := Kd.R_slice aD.out
    (first | subst eo19 | (injection eo19 with f1_ f2_ f3_; have f4_ := f1_.symm; have f5_ := f3_.symm; clear f1_ f2_ f3_; subst f4_; subst f5_))
    refine hK.out _ _ (C8_ ac.out) (fun hHeld => ?_)
    clear hK K
    refine nm_ (some 25) ?_
    refine pu_ (i := 21) (N := some 26) HT_ (bl_ 24 8388607) ?_
    exact norm_ (by first | (simp only [putAll, Act.put, sA_, sB_, sC_]; done) | (simp only [putAll, Act.put, sA_, sB_, sC_]; rfl)) (hJ2_5_8_11_14_17_20_22 (.slice Ao19 aE.length co19, .slice Ao18 aM.length co18, .slice Ao17 aT.length co17, ab) _ ⟨hHeld, (Qr aD.out), (Qr aN.out), (by (with_reducible repeat (first | apply rA_ | apply rN_ | apply rD_)); exact rM_ a4.out (fun _ hk => ⟨hk.1.2, hk.2⟩)), (Qb ac.out), (Qb ae.out), (Qb af.out), GW134.out, aC.out, NB119_134.out, NB134_119.out, NB120_134.out, NB134_120.out, (Qz HB.out ap.out ay.out aC.out)⟩)
  ·skip
   rintro ⟨v126, v129, v132⟩ w18 ⟨hS_, h0_, h1_, h2_, h3_, h4_, h5_⟩
   have aH : Aside0 (Kd.R Kd.string 9 w18 w.heap.size (fun k_ => some k_ ≠ (v129 : Value).ownBlock ∧ some k_ ≠ (v132 : Value).ownBlock) v126 aE) := ⟨h0_⟩
   have aI : Aside0 (Kd.R Kd.string 9 w18 w.heap.size (fun k_ => some k_ ≠ (v126 : Value).ownBlock ∧ some k_ ≠ (v132 : Value).ownBlock) v129 aM) := ⟨h1_⟩
   have aJ : Aside0 (Kd.R Kd.string 9 w18 w.heap.size (fun k_ => some k_ ≠ (v126 : Value).ownBlock ∧ some k_ ≠ (v129 : Value).ownBlock) v132 aT) := ⟨h2_⟩
   have aR : Aside0 (w18.heap[aa]? = some (.cells #[.string ak, .slice aq ah.length ar, .string al, .string am, .slice au ai.length av, .slice aA ag.length az, .slice aw aj.length ax, .string ao] 25 (0, 0))) := ⟨h3_⟩
   have aV : Aside0 (w18.heap[ad]? = some (.cells #[.string (⟨#[]⟩ : ByteArray), .slice none 0 0, .string (⟨#[]⟩ : ByteArray), .string (⟨#[]⟩ : ByteArray), .slice none 0 0, .slice none 0 0, .slice none 0 0, .string (⟨#[]⟩ : ByteArray)] 25 (0, 0))) := ⟨h4_⟩
   have aW : Aside0 (Below w.heap.size w w18) := ⟨h5_⟩
   clear ac ae HB h0_ h1_ h2_ h3_ h4_ h5_
   have aD := aH; have aN := aI; have a4 := aJ; have ac := aR; have ae := aV; have HB := aW
   clear aH aI aJ aR aV aW
   have hHeld : w18.cell? ⟨aa, 0, none⟩ = some (.string ak) ∧ w18.cell? ⟨aa, 1, none⟩ = some (.slice aq ah.length ar) ∧ w18.cell? ⟨aa, 2, none⟩ = some (.string al) ∧ w18.cell? ⟨aa, 3, none⟩ = some (.string am) ∧ w18.cell? ⟨aa, 4, none⟩ = some (.slice au ai.length av) ∧ w18.cell? ⟨aa, 5, none⟩ = some (.slice aA ag.length az) ∧ w18.cell? ⟨aa, 6, none⟩ = some (.slice aw aj.length ax) ∧ w18.cell? ⟨aa, 7, none⟩ = some (.string ao) := hS_
   obtain ⟨Ao19, co19, eo19⟩ := Kd.R_slice a4.out
   (first | subst eo19 | (injection eo19 with f1_ f2_ f3_; have f4_ := f1_.symm; have f5_ := f3_.symm; clear f1_ f2_ f3_; subst f4_; subst f5_))
   obtain ⟨Ao20, co20, eo20⟩ := Kd.R_slice aN.out
   (first | subst eo20 | (injection eo20 with f1_ f2_ f3_; have f4_ := f1_.symm; have f5_ := f3_.symm; clear f1_ f2_ f3_; subst f4_; subst f5_))
   obtain ⟨Ao21, co21, eo21⟩ := Kd.R_slice aD.out
   (first | subst eo21 | (injection eo21 with f1_ f2_ f3_; have f4_ := f1_.symm; have f5_ := f3_.symm; clear f1_ f2_ f3_; subst f4_; subst f5_))
   refine norm_ (a' := ?_) ?_ ?_
   rotate_left
   ·simp only [putAll, Act.put, sA_, sB_, sC_]
    rfl
   refine on_ (i := 22) (N := some 3) HT_ (bl_ 24 8388607) rfl rfl (fun K hK => ?_)
   refine box_step ?hg (N := 3) ?hd (cs := #[.string (⟨#[]⟩ : ByteArray), .slice none 0 0, .string (⟨#[]⟩ : ByteArray), .string (⟨#[]⟩ : ByteArray), .slice none 0 0, .slice none 0 0, .slice none 0 0, .string (⟨#[]⟩ : ByteArray)]) (t := 25) ?hr ?_; (case hd => rfl); (case hg => rfl); (case hr => first | (go_simp; done) | (go_simp; rfl))
   intro ab hg w22 hbox hb
   have aH := Aside0.mk (Kd.R_below (Qr aD.out) hb)
   have aI := Aside0.mk (Kd.R_below (Qr aN.out) hb)
   have aJ := Aside0.mk (Kd.R_below (Qr a4.out) hb)
   have aR := Aside0.mk (blk_below (g := aa) (o := .cells #[.string ak, .slice aq ah.length ar, .string al, .string am, .slice au ai.length av, .slice aA ag.length az, .slice aw aj.length ax, .string ao] 25 (0, 0)) (Qb ac.out) hb)
   have aV := Aside0.mk (blk_below (g := ad) (o := .cells #[.string (⟨#[]⟩ : ByteArray), .slice none 0 0, .string (⟨#[]⟩ : ByteArray), .string (⟨#[]⟩ : ByteArray), .slice none 0 0, .slice none 0 0, .slice none 0 0, .string (⟨#[]⟩ : ByteArray)] 25 (0, 0)) (Qb ae.out) hb)
   have aW := Aside0.mk (wT_ (Qy HB.out ap.out ay.out) hb)
   have aZ := Aside0.mk (hbox)
   have a0 := Aside0.mk ((by rw [hg]; exact (wZ_ (Qy HB.out ap.out ay.out)) : w.heap.size ≤ ab))
   have a1 := Aside0.mk ((by rw [hg]; exact (wZ_ (Qy HB.out ap.out ay.out)) : w.heap.size ≤ ab))
   have a2 := Aside0.mk ((by rw [hg]; exact Nat.ne_of_lt (blk_lt (g := aa) (o := .cells #[.string ak, .slice aq ah.length ar, .string al, .string am, .slice au ai.length av, .slice aA ag.length az, .slice aw aj.length ax, .string ao] 25 (0, 0)) (Qb ac.out)) : aa ≠ ab))
   have a5 := Aside0.mk ((by rw [hg]; exact Nat.ne_of_gt (blk_lt (g := aa) (o := .cells #[.string ak, .slice aq ah.length ar, .string al, .string am, .slice au ai.length av, .slice aA ag.length az, .slice aw aj.length ax, .string ao] 25 (0, 0)) (Qb ac.out)) : ab ≠ aa))
   have bm := Aside0.mk ((by rw [hg]; exact Nat.ne_of_lt (blk_lt (g := ad) (o := .cells #[.string (⟨#[]⟩ : ByteArray), .slice none 0 0, .string (⟨#[]⟩ : ByteArray), .string (⟨#[]⟩ : ByteArray), .slice none 0 0, .slice none 0 0, .slice none 0 0, .string (⟨#[]⟩ : ByteArray)] 25 (0, 0)) (Qb ae.out)) : ad ≠ ab))
   have bz := Aside0.mk ((by rw [hg]; exact Nat.ne_of_gt (blk_lt (g := ad) (o := .cells #[.string (⟨#[]⟩ : ByteArray), .slice none 0 0, .string (⟨#[]⟩ : ByteArray), .string (⟨#[]⟩ : ByteArray), .slice none 0 0, .slice none 0 0, .slice none 0 0, .string (⟨#[]⟩ : ByteArray)] 25 (0, 0)) (Qb ae.out)) : ab ≠ ad))
   clear aD aN a4 ac ae HB
   have aD := aH; have aN := aI; have a4 := aJ; have ac := aR; have ae := aV; have HB := aW; have af := aZ; have GW134 := a0; have aC := a1; have NB119_134 := a2; have NB134_119 := a5; have NB120_134 := bm; have NB134_120 := bz
   clear aH aI aJ aR aV aW aZ a0 a1 a2 a5 bm bz hb hbox hg
   refine hK.out _ _ (C8_ ac.out) (fun hHeld => ?_)
   clear hK K
   refine nm_ (some 3) ?_
   exact norm_ (by first | (simp only [putAll, Act.put, sA_, sB_, sC_]; done) | (simp only [putAll, Act.put, sA_, sB_, sC_]; rfl)) (hJ2_5_8_11_14_17_20_22 (.slice Ao21 aE.length co21, .slice Ao20 aM.length co20, .slice Ao19 aT.length co19, ab) _ ⟨hHeld, (Qr aD.out), (Qr aN.out), (Qr a4.out), (Qb ac.out), (Qb ae.out), (Qb af.out), GW134.out, aC.out, NB119_134.out, NB134_119.out, NB120_134.out, NB134_120.out, (Qz HB.out ap.out ay.out aC.out)⟩)
 rintro ⟨v126, v129, v132, ab⟩ w19 ⟨hS_, h0_, h1_, h2_, h3_, h4_, h5_, h6_, h7_, h8_, h9_, h10_, h11_, h12_⟩
 have aH : Aside0 (Kd.R Kd.string 9 w19 w.heap.size (fun k_ => some k_ ≠ (v129 : Value).ownBlock ∧ some k_ ≠ (v132 : Value).ownBlock) v126 aE) := ⟨h0_⟩
 have aI : Aside0 (Kd.R Kd.string 9 w19 w.heap.size (fun k_ => some k_ ≠ (v126 : Value).ownBlock ∧ some k_ ≠ (v132 : Value).ownBlock) v129 aM) := ⟨h1_⟩
 have aJ : Aside0 (Kd.R Kd.string 9 w19 w.heap.size (fun k_ => some k_ ≠ (v126 : Value).ownBlock ∧ some k_ ≠ (v129 : Value).ownBlock) v132 aT) := ⟨h2_⟩
 have aR : Aside0 (w19.heap[aa]? = some (.cells #[.string ak, .slice aq ah.length ar, .string al, .string am, .slice au ai.length av, .slice aA ag.length az, .slice aw aj.length ax, .string ao] 25 (0, 0))) := ⟨h3_⟩
 have aV : Aside0 (w19.heap[ad]? = some (.cells #[.string (⟨#[]⟩ : ByteArray), .slice none 0 0, .string (⟨#[]⟩ : ByteArray), .string (⟨#[]⟩ : ByteArray), .slice none 0 0, .slice none 0 0, .slice none 0 0, .string (⟨#[]⟩ : ByteArray)] 25 (0, 0))) := ⟨h4_⟩
 have aW : Aside0 (w19.heap[ab]? = some (.cells #[.string (⟨#[]⟩ : ByteArray), .slice none 0 0, .string (⟨#[]⟩ : ByteArray), .string (⟨#[]⟩ : ByteArray), .slice none 0 0, .slice none 0 0, .slice none 0 0, .string (⟨#[]⟩ : ByteArray)] 25 (0, 0))) := ⟨h5_⟩
 have aZ : Aside0 (w.heap.size ≤ ab) := ⟨h6_⟩
 have a0 : Aside0 (w.heap.size ≤ ab) := ⟨h7_⟩
 have a1 : Aside0 (aa ≠ ab) := ⟨h8_⟩
 have a2 : Aside0 (ab ≠ aa) := ⟨h9_⟩
 have a5 : Aside0 (ad ≠ ab) := ⟨h10_⟩
 have bm : Aside0 (ab ≠ ad) := ⟨h11_⟩
 have bz : Aside0 (Below w.heap.size w w19) := ⟨h12_⟩
 clear ac ae HB h0_ h1_ h2_ h3_ h4_ h5_ h6_ h7_ h8_ h9_ h10_ h11_ h12_
 have aD := aH; have aN := aI; have a4 := aJ; have ac := aR; have ae := aV; have af := aW; have GW134 := aZ; have aC := a0; have NB119_134 := a1; have NB134_119 := a2; have NB120_134 := a5; have NB134_120 := bm; have HB := bz
 clear aH aI aJ aR aV aW aZ a0 a1 a2 a5 bm bz
 have hHeld : w19.cell? ⟨aa, 0, none⟩ = some (.string ak) ∧ w19.cell? ⟨aa, 1, none⟩ = some (.slice aq ah.length ar) ∧ w19.cell? ⟨aa, 2, none⟩ = some (.string al) ∧ w19.cell? ⟨aa, 3, none⟩ = some (.string am) ∧ w19.cell? ⟨aa, 4, none⟩ = some (.slice au ai.length av) ∧ w19.cell? ⟨aa, 5, none⟩ = some (.slice aA ag.length az) ∧ w19.cell? ⟨aa, 6, none⟩ = some (.slice aw aj.length ax) ∧ w19.cell? ⟨aa, 7, none⟩ = some (.string ao) := hS_
 obtain ⟨Ao20, co20, eo20⟩ := Kd.R_slice a4.out
 (first | subst eo20 | (injection eo20 with f1_ f2_ f3_; have f4_ := f1_.symm; have f5_ := f3_.symm; clear f1_ f2_ f3_; subst f4_; subst f5_))
 obtain ⟨Ao21, co21, eo21⟩ := Kd.R_slice aN.out
 (first | subst eo21 | (injection eo21 with f1_ f2_ f3_; have f4_ := f1_.symm; have f5_ := f3_.symm; clear f1_ f2_ f3_; subst f4_; subst f5_))
 obtain ⟨Ao22, co22, eo22⟩ := Kd.R_slice aD.out
 (first | subst eo22 | (injection eo22 with f1_ f2_ f3_; have f4_ := f1_.symm; have f5_ := f3_.symm; clear f1_ f2_ f3_; subst f4_; subst f5_))
 refine norm_ (a' := ?_) ?_ ?_
 rotate_left
 ·simp only [putAll, Act.put, sA_, sB_, sC_]
  rfl
 refine on_ (i := 23) (N := none) HT_ (bl_ 24 16777215) rfl rfl (fun K hK => ?_)
 have hs23 : w19.cell? ⟨ab, 0, none⟩ = some (.string (⟨#[]⟩ : ByteArray)) := (bC_ af.out 0).trans rfl
 have hfs23 := bF_ af.out 0
 have hns23_0 := NB119_134.out
 have hns23_1 := NB120_134.out
 have hms23_0 := NB134_119.out
 have hms23_1 := NB134_120.out
 have hs24 : w19.cell? ⟨ab, 1, none⟩ = some (.slice none 0 0) := (bC_ af.out 1).trans rfl
 have hfs24 := bF_ af.out 1
 have hns24_0 := NB119_134.out
 have hns24_1 := NB120_134.out
 have hms24_0 := NB134_119.out
 have hms24_1 := NB134_120.out
 have hs25 : w19.cell? ⟨ab, 2, none⟩ = some (.string (⟨#[]⟩ : ByteArray)) := (bC_ af.out 2).trans rfl
 have hfs25 := bF_ af.out 2
 have hns25_0 := NB119_134.out
 have hns25_1 := NB120_134.out
 have hms25_0 := NB134_119.out
 have hms25_1 := NB134_120.out
 have hs26 : w19.cell? ⟨ab, 3, none⟩ = some (.string (⟨#[]⟩ : ByteArray)) := (bC_ af.out 3).trans rfl
 have hfs26 := bF_ af.out 3
 have hns26_0 := NB119_134.out
 have hns26_1 := NB120_134.out
 have hms26_0 := NB134_119.out
 have hms26_1 := NB134_120.out
 have hs27 : w19.cell? ⟨ab, 4, none⟩ = some (.slice none 0 0) := (bC_ af.out 4).trans rfl
 have hfs27 := bF_ af.out 4
 have hns27_0 := NB119_134.out
 have hns27_1 := NB120_134.out
 have hms27_0 := NB134_119.out
 have hms27_1 := NB134_120.out
 have hs28 : w19.cell? ⟨ab, 5, none⟩ = some (.slice none 0 0) := (bC_ af.out 5).trans rfl
 have hfs28 := bF_ af.out 5
 have hns28_0 := NB119_134.out
 have hns28_1 := NB120_134.out
 have hms28_0 := NB134_119.out
 have hms28_1 := NB134_120.out
 have hs29 : w19.cell? ⟨ab, 6, none⟩ = some (.slice none 0 0) := (bC_ af.out 6).trans rfl
 have hfs29 := bF_ af.out 6
 have hns29_0 := NB119_134.out
 have hns29_1 := NB120_134.out
 have hms29_0 := NB134_119.out
 have hms29_1 := NB134_120.out
 have hs30 : w19.cell? ⟨ab, 7, none⟩ = some (.string (⟨#[]⟩ : ByteArray)) := (bC_ af.out 7).trans rfl
 have hfs30 := bF_ af.out 7
 have hns30_0 := NB119_134.out
 have hns30_1 := NB120_134.out
 have hms30_0 := NB134_119.out
 have hms30_1 := NB134_120.out
 refine skip_ (w1 := ?_) (by rfl) rfl ?_ ?_
 rotate_left
 ·go_simp
  rfl
 refine hK.out _ _ ⟨((cell_far (p := ⟨ab, _, none⟩) NB119_134.out _).trans (((cell_far (p := ⟨ab, _, none⟩) NB119_134.out _).trans (((cell_far (p := ⟨ab, _, none⟩) NB119_134.out _).trans (((cell_far (p := ⟨ab, _, none⟩) NB119_134.out _).trans (((cell_far (p := ⟨ab, _, none⟩) NB119_134.out _).trans (((cell_far (p := ⟨ab, _, none⟩) NB119_134.out _).trans (((cell_far (p := ⟨ab, _, none⟩) NB119_134.out _).trans (((cell_far (p := ⟨ab, _, none⟩) NB119_134.out _).trans (hHeld.1)))))))))))))))), ((cell_far (p := ⟨ab, _, none⟩) NB119_134.out _).trans (((cell_far (p := ⟨ab, _, none⟩) NB119_134.out _).trans (((cell_far (p := ⟨ab, _, none⟩) NB119_134.out _).trans (((cell_far (p := ⟨ab, _, none⟩) NB119_134.out _).trans (((cell_far (p := ⟨ab, _, none⟩) NB119_134.out _).trans (((cell_far (p := ⟨ab, _, none⟩) NB119_134.out _).trans (((cell_far (p := ⟨ab, _, none⟩) NB119_134.out _).trans (((cell_far (p := ⟨ab, _, none⟩) NB119_134.out _).trans (hHeld.2.1)))))))))))))))), ((cell_far (p := ⟨ab, _, none⟩) NB119_134.out _).trans (((cell_far (p := ⟨ab, _, none⟩) NB119_134.out _).trans (((cell_far (p := ⟨ab, _, none⟩) NB119_134.out _).trans (((cell_far (p := ⟨ab, _, none⟩) NB119_134.out _).trans (((cell_far (p := ⟨ab, _, none⟩) NB119_134.out _).trans (((cell_far (p := ⟨ab, _, none⟩) NB119_134.out _).trans (((cell_far (p := ⟨ab, _, none⟩) NB119_134.out _).trans (((cell_far (p := ⟨ab, _, none⟩) NB119_134.out _).trans (hHeld.2.2.1)))))))))))))))), ((cell_far (p := ⟨ab, _, none⟩) NB119_134.out _).trans (((cell_far (p := ⟨ab, _, none⟩) NB119_134.out _).trans (((cell_far (p := ⟨ab, _, none⟩) NB119_134.out _).trans (((cell_far (p := ⟨ab, _, none⟩) NB119_134.out _).trans (((cell_far (p := ⟨ab, _, none⟩) NB119_134.out _).trans (((cell_far (p := ⟨ab, _, none⟩) NB119_134.out _).trans (((cell_far (p := ⟨ab, _, none⟩) NB119_134.out _).trans (((cell_far (p := ⟨ab, _, none⟩) NB119_134.out _).trans (hHeld.2.2.2.1)))))))))))))))), ((cell_far (p := ⟨ab, _, none⟩) NB119_134.out _).trans (((cell_far (p := ⟨ab, _, none⟩) NB119_134.out _).trans (((cell_far (p := ⟨ab, _, none⟩) NB119_134.out _).trans (((cell_far (p := ⟨ab, _, none⟩) NB119_134.out _).trans (((cell_far (p := ⟨ab, _, none⟩) NB119_134.out _).trans (((cell_far (p := ⟨ab, _, none⟩) NB119_134.out _).trans (((cell_far (p := ⟨ab, _, none⟩) NB119_134.out _).trans (((cell_far (p := ⟨ab, _, none⟩) NB119_134.out _).trans (hHeld.2.2.2.2.1)))))))))))))))), ((cell_far (p := ⟨ab, _, none⟩) NB119_134.out _).trans (((cell_far (p := ⟨ab, _, none⟩) NB119_134.out _).trans (((cell_far (p := ⟨ab, _, none⟩) NB119_134.out _).trans (((cell_far (p := ⟨ab, _, none⟩) NB119_134.out _).trans (((cell_far (p := ⟨ab, _, none⟩) NB119_134.out _).trans (((cell_far (p := ⟨ab, _, none⟩) NB119_134.out _).trans (((cell_far (p := ⟨ab, _, none⟩) NB119_134.out _).trans (((cell_far (p := ⟨ab, _, none⟩) NB119_134.out _).trans (hHeld.2.2.2.2.2.1)))))))))))))))), ((cell_far (p := ⟨ab, _, none⟩) NB119_134.out _).trans (((cell_far (p := ⟨ab, _, none⟩) NB119_134.out _).trans (((cell_far (p := ⟨ab, _, none⟩) NB119_134.out _).trans (((cell_far (p := ⟨ab, _, none⟩) NB119_134.out _).trans (((cell_far (p := ⟨ab, _, none⟩) NB119_134.out _).trans (((cell_far (p := ⟨ab, _, none⟩) NB119_134.out _).trans (((cell_far (p := ⟨ab, _, none⟩) NB119_134.out _).trans (((cell_far (p := ⟨ab, _, none⟩) NB119_134.out _).trans (hHeld.2.2.2.2.2.2.1)))))))))))))))), ((cell_far (p := ⟨ab, _, none⟩) NB119_134.out _).trans (((cell_far (p := ⟨ab, _, none⟩) NB119_134.out _).trans (((cell_far (p := ⟨ab, _, none⟩) NB119_134.out _).trans (((cell_far (p := ⟨ab, _, none⟩) NB119_134.out _).trans (((cell_far (p := ⟨ab, _, none⟩) NB119_134.out _).trans (((cell_far (p := ⟨ab, _, none⟩) NB119_134.out _).trans (((cell_far (p := ⟨ab, _, none⟩) NB119_134.out _).trans (((cell_far (p := ⟨ab, _, none⟩) NB119_134.out _).trans (hHeld.2.2.2.2.2.2.2))))))))))))))))⟩ (fun hHeld => ?_)
 clear hK K
 refine done_ (done_of HT_.out (by kernel_rfl)) ?_
 try go_wp2
 go_loopg [4] k (fun kq v4 w' => ∃ (aX : Int) (aG : List (S40)) (u135005 : Value), v4 = .int .i64 aX ∧ Aside0 (isoglosslaw06_few.l0 kq aX ak ah al am ai ag aj ao aK aE aQ aU aM aG aT aY = some (r1, r2, r3, r4, r5, r6, r7, r8)) ∧ Aside0 (kq ≤ k) ∧ Aside0 (Kd.R Kd.string 9 w' w.heap.size (fun k_ => some k_ ≠ ((.slice Ao21 aM.length co21) : Value).ownBlock ∧ some k_ ≠ ((.slice Ao20 aT.length co20) : Value).ownBlock) (.slice Ao22 aE.length co22) aE) ∧ Aside0 (Kd.R Kd.string 9 w' w.heap.size (fun k_ => some k_ ≠ ((.slice Ao22 aE.length co22) : Value).ownBlock ∧ some k_ ≠ ((.slice Ao20 aT.length co20) : Value).ownBlock) (.slice Ao21 aM.length co21) aM) ∧ Aside0 (Kd.S k40 40 w' w.heap.size (fun k_ => some k_ ≠ ((.slice Ao22 aE.length co22) : Value).ownBlock ∧ some k_ ≠ ((.slice Ao21 aM.length co21) : Value).ownBlock ∧ some k_ ≠ ((.slice Ao20 aT.length co20) : Value).ownBlock) u135005 aG) ∧ Aside0 (Kd.R Kd.string 9 w' w.heap.size (fun k_ => some k_ ≠ ((.slice Ao22 aE.length co22) : Value).ownBlock ∧ some k_ ≠ ((.slice Ao21 aM.length co21) : Value).ownBlock) (.slice Ao20 aT.length co20) aT) ∧ Aside0 (w'.heap[aa]? = some (.cells #[.string ak, (.slice aq ah.length ar), .string al, .string am, (.slice au ai.length av), (.slice aA ag.length az), (.slice aw aj.length ax), .string ao] 25 (0, 0))) ∧ Aside0 (w'.heap[ad]? = some (.cells #[.string (⟨#[]⟩ : ByteArray), (.slice none 0 0), .string (⟨#[]⟩ : ByteArray), .string (⟨#[]⟩ : ByteArray), (.slice none 0 0), (.slice none 0 0), (.slice none 0 0), .string (⟨#[]⟩ : ByteArray)] 25 (0, 0))) ∧ Aside0 (w'.heap[ab]? = some (.cells #[.string aK, (.slice Ao22 aE.length co22), .string aQ, .string aU, (.slice Ao21 aM.length co21), u135005, (.slice Ao20 aT.length co20), .string aY] 25 (0, 0))) ∧ Aside0 (Below w.heap.size w w'))
 case atStart => exact ⟨(0), (([] : List (S40))), (.slice none 0 0), Qs, H', ⟨Nat.le_refl _⟩, ⟨by (with_reducible repeat (first | apply rA_ | apply rN_ | apply rD_)); exact rM_ (Kd.R_far (p := ⟨ab, 7, none⟩) (Kd.R_far (p := ⟨ab, 6, none⟩) (Kd.R_far (p := ⟨ab, 5, none⟩) (Kd.R_far (p := ⟨ab, 4, none⟩) (Kd.R_far (p := ⟨ab, 3, none⟩) (Kd.R_far (p := ⟨ab, 2, none⟩) (Kd.R_far (p := ⟨ab, 1, none⟩) (Kd.R_far (p := ⟨ab, 0, none⟩) (Kd.R_types aD.out af.out (by decide)) (fun _ hk => hk.2) (.string aK)) (fun _ hk => hk.2) (.slice Ao22 aE.length co22)) (fun _ hk => hk.2) (.string aQ)) (fun _ hk => hk.2) (.string aU)) (fun _ hk => hk.2) (.slice Ao21 aM.length co21)) (fun _ hk => hk.2) (.slice none 0 0)) (fun _ hk => hk.2) (.slice Ao20 aT.length co20)) (fun _ hk => hk.2) (.string aY)) (fun _ hk => ⟨hk.1.1, hk.1.2⟩)⟩, ⟨by (with_reducible repeat (first | apply rA_ | apply rN_ | apply rD_)); exact rM_ (Kd.R_far (p := ⟨ab, 7, none⟩) (Kd.R_far (p := ⟨ab, 6, none⟩) (Kd.R_far (p := ⟨ab, 5, none⟩) (Kd.R_far (p := ⟨ab, 4, none⟩) (Kd.R_far (p := ⟨ab, 3, none⟩) (Kd.R_far (p := ⟨ab, 2, none⟩) (Kd.R_far (p := ⟨ab, 1, none⟩) (Kd.R_far (p := ⟨ab, 0, none⟩) (Kd.R_types aN.out af.out (by decide)) (fun _ hk => hk.2) (.string aK)) (fun _ hk => hk.2) (.slice Ao22 aE.length co22)) (fun _ hk => hk.2) (.string aQ)) (fun _ hk => hk.2) (.string aU)) (fun _ hk => hk.2) (.slice Ao21 aM.length co21)) (fun _ hk => hk.2) (.slice none 0 0)) (fun _ hk => hk.2) (.slice Ao20 aT.length co20)) (fun _ hk => hk.2) (.string aY)) (fun _ hk => ⟨hk.1.1, hk.1.2⟩)⟩, ⟨by first | exact Kd.S_nil _ _ _ _ _ | exact Kd.N_nil _ _ _ _ _ | exact Kd.V_nil _ _ _ _ _ | exact Kd.Q_nil _ _ _ _ _ | exact Kd.R_nil _ _ _ _ _⟩, ⟨by (with_reducible repeat (first | apply rA_ | apply rN_ | apply rD_)); exact rM_ (Kd.R_far (p := ⟨ab, 7, none⟩) (Kd.R_far (p := ⟨ab, 6, none⟩) (Kd.R_far (p := ⟨ab, 5, none⟩) (Kd.R_far (p := ⟨ab, 4, none⟩) (Kd.R_far (p := ⟨ab, 3, none⟩) (Kd.R_far (p := ⟨ab, 2, none⟩) (Kd.R_far (p := ⟨ab, 1, none⟩) (Kd.R_far (p := ⟨ab, 0, none⟩) (Kd.R_types a4.out af.out (by decide)) (fun _ hk => hk.2) (.string aK)) (fun _ hk => hk.2) (.slice Ao22 aE.length co22)) (fun _ hk => hk.2) (.string aQ)) (fun _ hk => hk.2) (.string aU)) (fun _ hk => hk.2) (.slice Ao21 aM.length co21)) (fun _ hk => hk.2) (.slice none 0 0)) (fun _ hk => hk.2) (.slice Ao20 aT.length co20)) (fun _ hk => hk.2) (.string aY)) (fun _ hk => ⟨hk.1.1, hk.1.2⟩)⟩, ⟨by (with_reducible repeat (first | refine bN_ ?_ _ | refine bD_ ?_ | refine bA_ ?_ _)); refine blk_far ?_ NB119_134.out _; (with_reducible repeat (first | refine bN_ ?_ _ | refine bD_ ?_ | refine bA_ ?_ _)); refine blk_far ?_ NB119_134.out _; (with_reducible repeat (first | refine bN_ ?_ _ | refine bD_ ?_ | refine bA_ ?_ _)); refine blk_far ?_ NB119_134.out _; (with_reducible repeat (first | refine bN_ ?_ _ | refine bD_ ?_ | refine bA_ ?_ _)); refine blk_far ?_ NB119_134.out _; (with_reducible repeat (first | refine bN_ ?_ _ | refine bD_ ?_ | refine bA_ ?_ _)); refine blk_far ?_ NB119_134.out _; (with_reducible repeat (first | refine bN_ ?_ _ | refine bD_ ?_ | refine bA_ ?_ _)); refine blk_far ?_ NB119_134.out _; (with_reducible repeat (first | refine bN_ ?_ _ | refine bD_ ?_ | refine bA_ ?_ _)); refine blk_far ?_ NB119_134.out _; (with_reducible repeat (first | refine bN_ ?_ _ | refine bD_ ?_ | refine bA_ ?_ _)); refine blk_far ?_ NB119_134.out _; (with_reducible repeat (first | refine bN_ ?_ _ | refine bD_ ?_ | refine bA_ ?_ _)); exact ac.out⟩, ⟨by (with_reducible repeat (first | refine bN_ ?_ _ | refine bD_ ?_ | refine bA_ ?_ _)); refine blk_far ?_ NB120_134.out _; (with_reducible repeat (first | refine bN_ ?_ _ | refine bD_ ?_ | refine bA_ ?_ _)); refine blk_far ?_ NB120_134.out _; (with_reducible repeat (first | refine bN_ ?_ _ | refine bD_ ?_ | refine bA_ ?_ _)); refine blk_far ?_ NB120_134.out _; (with_reducible repeat (first | refine bN_ ?_ _ | refine bD_ ?_ | refine bA_ ?_ _)); refine blk_far ?_ NB120_134.out _; (with_reducible repeat (first | refine bN_ ?_ _ | refine bD_ ?_ | refine bA_ ?_ _)); refine blk_far ?_ NB120_134.out _; (with_reducible repeat (first | refine bN_ ?_ _ | refine bD_ ?_ | refine bA_ ?_ _)); refine blk_far ?_ NB120_134.out _; (with_reducible repeat (first | refine bN_ ?_ _ | refine bD_ ?_ | refine bA_ ?_ _)); refine blk_far ?_ NB120_134.out _; (with_reducible repeat (first | refine bN_ ?_ _ | refine bD_ ?_ | refine bA_ ?_ _)); refine blk_far ?_ NB120_134.out _; (with_reducible repeat (first | refine bN_ ?_ _ | refine bD_ ?_ | refine bA_ ?_ _)); exact ae.out⟩, ⟨by (with_reducible repeat (first | refine bN_ ?_ _ | refine bD_ ?_ | refine bA_ ?_ _)); refine blk_put (cs := #[.string aK, .slice Ao22 aE.length co22, .string aQ, .string aU, .slice Ao21 aM.length co21, .slice none 0 0, .slice Ao20 aT.length co20, .string (⟨#[]⟩ : ByteArray)]) ?_ 7 _ rfl; (with_reducible repeat (first | refine bN_ ?_ _ | refine bD_ ?_ | refine bA_ ?_ _)); refine blk_put (cs := #[.string aK, .slice Ao22 aE.length co22, .string aQ, .string aU, .slice Ao21 aM.length co21, .slice none 0 0, .slice none 0 0, .string (⟨#[]⟩ : ByteArray)]) ?_ 6 _ rfl; (with_reducible repeat (first | refine bN_ ?_ _ | refine bD_ ?_ | refine bA_ ?_ _)); refine blk_put (cs := #[.string aK, .slice Ao22 aE.length co22, .string aQ, .string aU, .slice Ao21 aM.length co21, .slice none 0 0, .slice none 0 0, .string (⟨#[]⟩ : ByteArray)]) ?_ 5 _ rfl; (with_reducible repeat (first | refine bN_ ?_ _ | refine bD_ ?_ | refine bA_ ?_ _)); refine blk_put (cs := #[.string aK, .slice Ao22 aE.length co22, .string aQ, .string aU, .slice none 0 0, .slice none 0 0, .slice none 0 0, .string (⟨#[]⟩ : ByteArray)]) ?_ 4 _ rfl; (with_reducible repeat (first | refine bN_ ?_ _ | refine bD_ ?_ | refine bA_ ?_ _)); refine blk_put (cs := #[.string aK, .slice Ao22 aE.length co22, .string aQ, .string (⟨#[]⟩ : ByteArray), .slice none 0 0, .slice none 0 0, .slice none 0 0, .string (⟨#[]⟩ : ByteArray)]) ?_ 3 _ rfl; (with_reducible repeat (first | refine bN_ ?_ _ | refine bD_ ?_ | refine bA_ ?_ _)); refine blk_put (cs := #[.string aK, .slice Ao22 aE.length co22, .string (⟨#[]⟩ : ByteArray), .string (⟨#[]⟩ : ByteArray), .slice none 0 0, .slice none 0 0, .slice none 0 0, .string (⟨#[]⟩ : ByteArray)]) ?_ 2 _ rfl; (with_reducible repeat (first | refine bN_ ?_ _ | refine bD_ ?_ | refine bA_ ?_ _)); refine blk_put (cs := #[.string aK, .slice none 0 0, .string (⟨#[]⟩ : ByteArray), .string (⟨#[]⟩ : ByteArray), .slice none 0 0, .slice none 0 0, .slice none 0 0, .string (⟨#[]⟩ : ByteArray)]) ?_ 1 _ rfl; (with_reducible repeat (first | refine bN_ ?_ _ | refine bD_ ?_ | refine bA_ ?_ _)); refine blk_put (cs := #[.string (⟨#[]⟩ : ByteArray), .slice none 0 0, .string (⟨#[]⟩ : ByteArray), .string (⟨#[]⟩ : ByteArray), .slice none 0 0, .slice none 0 0, .slice none 0 0, .string (⟨#[]⟩ : ByteArray)]) ?_ 0 _ rfl; (with_reducible repeat (first | refine bN_ ?_ _ | refine bD_ ?_ | refine bA_ ?_ _)); exact af.out⟩, ⟨Qz HB.out ap.out ay.out aC.out⟩⟩
 case round =>
  clear H'
  obtain ⟨aX, aG, u135005, rfl, HA, HK1, HO_135001, HO_135004, HO_135005, HO_135006, ac, ae, af, HB⟩ := hrel
  cases gk with
  | zero => exact absurd HA.out (by simp [isoglosslaw06_few.l0])
  | succ k1 =>
   have H := HA.out
   clear HA
   simp only [isoglosslaw06_few.l0] at H
   have bK := Aside0.mk H
   clear H
   go_upto_region 3 with (fail)
   go_cut [35] (fun v35 wc => ∃ (kq : Nat) (bn : Bool), v35 = .bool bn ∧ Aside0 (isoglosslaw06_few.j1 kq aX bn ak ah al am ai ag aj ao aK aE aQ aU aM aG aT aY = some (r1, r2, r3, r4, r5, r6, r7, r8)) ∧ Aside0 (kq ≤ k1) ∧ Aside0 (Kd.R Kd.string 9 wc w.heap.size (fun k_ => some k_ ≠ ((.slice Ao21 aM.length co21) : Value).ownBlock ∧ some k_ ≠ ((.slice Ao20 aT.length co20) : Value).ownBlock) (.slice Ao22 aE.length co22) aE) ∧ Aside0 (Kd.R Kd.string 9 wc w.heap.size (fun k_ => some k_ ≠ ((.slice Ao22 aE.length co22) : Value).ownBlock ∧ some k_ ≠ ((.slice Ao20 aT.length co20) : Value).ownBlock) (.slice Ao21 aM.length co21) aM) ∧ Aside0 (Kd.S k40 40 wc w.heap.size (fun k_ => some k_ ≠ ((.slice Ao22 aE.length co22) : Value).ownBlock ∧ some k_ ≠ ((.slice Ao21 aM.length co21) : Value).ownBlock ∧ some k_ ≠ ((.slice Ao20 aT.length co20) : Value).ownBlock) u135005 aG) ∧ Aside0 (Kd.R Kd.string 9 wc w.heap.size (fun k_ => some k_ ≠ ((.slice Ao22 aE.length co22) : Value).ownBlock ∧ some k_ ≠ ((.slice Ao21 aM.length co21) : Value).ownBlock) (.slice Ao20 aT.length co20) aT) ∧ Aside0 (wc.heap[aa]? = some (.cells #[.string ak, (.slice aq ah.length ar), .string al, .string am, (.slice au ai.length av), (.slice aA ag.length az), (.slice aw aj.length ax), .string ao] 25 (0, 0))) ∧ Aside0 (wc.heap[ad]? = some (.cells #[.string (⟨#[]⟩ : ByteArray), (.slice none 0 0), .string (⟨#[]⟩ : ByteArray), .string (⟨#[]⟩ : ByteArray), (.slice none 0 0), (.slice none 0 0), (.slice none 0 0), .string (⟨#[]⟩ : ByteArray)] 25 (0, 0))) ∧ Aside0 (wc.heap[ab]? = some (.cells #[.string aK, (.slice Ao22 aE.length co22), .string aQ, .string aU, (.slice Ao21 aM.length co21), u135005, (.slice Ao20 aT.length co20), .string aY] 25 (0, 0))) ∧ Aside0 (Below w.heap.size w wc))
   case first =>
    have H := bK.out
    clear bK
    by_cases c32 : aX < (ag.length : Int)
    ·rw [if_pos c32] at H
     have bp : decide (aX < (ag.length : Int)) = true := decide_eq_true c32
     clear c32
     (first | rw [bp] | (simp only [i64_w, i32_w]; rw [bp]) | skip)
     have H' := Aside0.mk H
     clear H
     have hnb33 := NB119_120.out
     have hnc33 := NB120_119.out
     have hnb34 := NB119_134.out
     have hnc34 := NB134_119.out
     obtain ⟨bP, bQ, bR, bS, bT, bU, bV, bW, bX, bY, bZ, b0, b1, b2, b3, b4⟩ := c8_2 ac.out
     go_wp2
     go_meet
     case rel => exact ⟨_, (decide (aX < 4)), Qs, H', ⟨by have := HK1.out; first | omega | exact Nat.le_refl _⟩, ⟨Qr HO_135001.out⟩, ⟨Qr HO_135004.out⟩, ⟨by (with_reducible repeat (first | apply tA_ | apply tN_ | apply tD_)); exact HO_135005.out⟩, ⟨Qr HO_135006.out⟩, ⟨Qb ac.out⟩, ⟨Qb ae.out⟩, ⟨Qb af.out⟩, ⟨Qz HB.out ap.out ay.out aC.out⟩⟩
    ·rw [if_neg c32] at H
     have bp : decide (aX < (ag.length : Int)) = false := decide_eq_false c32
     clear c32
     (first | rw [bp] | (simp only [i64_w, i32_w]; rw [bp]) | skip)
     have H' := Aside0.mk H
     clear H
     have hnb36 := NB119_120.out
     have hnc36 := NB120_119.out
     have hnb37 := NB119_134.out
     have hnc37 := NB134_119.out
     obtain ⟨b5, b6, b7, b8, b9, ca, cb, cc, cd, ce, cf, cg, ch, ci, cj, ck⟩ := c8_2 ac.out
     go_wp2
     go_meet
     case rel => exact ⟨_, (false), Qs, H', ⟨by have := HK1.out; first | omega | exact Nat.le_refl _⟩, ⟨Qr HO_135001.out⟩, ⟨Qr HO_135004.out⟩, ⟨by (with_reducible repeat (first | apply tA_ | apply tN_ | apply tD_)); exact HO_135005.out⟩, ⟨Qr HO_135006.out⟩, ⟨Qb ac.out⟩, ⟨Qb ae.out⟩, ⟨Qb af.out⟩, ⟨Qz HB.out ap.out ay.out aC.out⟩⟩
   case rest =>
    clear bK
    obtain ⟨kq, bn, rfl, HA, HJ30, HO_135001, HO_135004, HO_135005, HO_135006, ac, ae, af, HB⟩ := hcut
    cases kq with
    | zero => exact absurd HA.out (by simp [isoglosslaw06_few.j1])
    | succ kj30 =>
     have H := HA.out
     clear HA
     simp only [isoglosslaw06_few.j1] at H
     by_cases c39 : bn = true
     ·subst c39
      rw [if_pos rfl] at H
      by_cases c40 : 0 ≤ aX
      ·rw [if_pos c40] at H
       have db : decide (0 ≤ aX) = true := decide_eq_true c40
       clear c40
       by_cases c41 : aX < (ag.length : Int)
       ·rw [if_pos c41] at H
        have dc : decide (aX < (ag.length : Int)) = true := decide_eq_true c41
        clear c41
        replace H := Option.bind_eq_some_iff.mp H
        obtain ⟨br, bL, H⟩ := H
        try dsimp only at H
        have dd := Aside0.mk bL
        clear bL
        replace H := Option.bind_eq_some_iff.mp H
        obtain ⟨bo, bM, H⟩ := H
        try dsimp only at H
        have de := Aside0.mk bM
        clear bM
        by_cases c44 : aG.length < 3518437208883
        ·rw [if_pos c44] at H
         have bN := Aside0.mk c44
         clear c44
         obtain ⟨bs, bq⟩ : ∃ y_ : List (S40), y_ = (aG ++ [(⟨br, bo⟩ : S40)]) := ⟨_, rfl⟩
         replace H : (isoglosslaw06_few.l0 kj30 (wrap64 (aX + 1)) ak ah al am ai ag aj ao aK aE aQ aU aM bs aT aY) = some (r1, r2, r3, r4, r5, r6, r7, r8) := by first | (rw [bq]; with_reducible exact H) | (have H2_ := (Option.bind_some _ _).symm.trans H; rw [bq]; with_reducible exact H2_) | (have H2_ := (Option.bind_some _ _).symm.trans H; with_reducible exact H2_) | with_reducible exact H | (rw [bq]; exact H) | exact H
         have bO := Aside0.mk bq
         clear bq
         have H' := Aside0.mk H
         clear H
         try go_wp2
         have aH := Aside0.mk (rD_ HO_135001.out)
         have aI := Aside0.mk (rD_ HO_135004.out)
         have aJ := Aside0.mk (tD_ HO_135005.out)
         have aR := Aside0.mk (rD_ HO_135006.out)
         have aV := Aside0.mk (bD_ ac.out)
         have aW := Aside0.mk (bD_ ae.out)
         have aZ := Aside0.mk (bD_ af.out)
         have a0 := Aside0.mk (wD_ HB.out)
         clear HO_135001 HO_135004 HO_135005 HO_135006 ac ae af HB
         have HO_135001 := aH; have HO_135004 := aI; have HO_135005 := aJ; have HO_135006 := aR; have ac := aV; have ae := aW; have af := aZ; have HB := a0
         clear aH aI aJ aR aV aW aZ a0
         have p135 : 0 ≤ (aX : Int) := of_decide_eq_true Qa
         have q135 : aX < (ag.length : Int) := of_decide_eq_true Qa
         obtain ⟨ad135, bu, bv, e135, hx135_0, hx135_1, hl135_1, hi135_1⟩ := at_T40 bG.out aX p135 q135
         have hw135_1 := hx135_1
         have hw135_0 := hx135_0
         cases e135
         replace hx135_0 := (HB.out.cell (World.block_lt_of_cell? w _ hx135_0)).trans hx135_0
         replace hx135_1 := (HB.out.cell (World.block_lt_of_cell? w _ hx135_1)).trans hx135_1
         have bA := Aside0.mk hi135_1
         have cl := Aside0.mk hl135_1
         clear hi135_1 hl135_1
         replace p135 := eq_true p135
         replace q135 := eq_true q135
         have p137 : 0 ≤ (aX : Int) := of_decide_eq_true Qa
         have q137 : aX < (ag.length : Int) := of_decide_eq_true Qa
         obtain ⟨ad137, cT, cU, e137, hx137_0, hx137_1, hl137_1, hi137_1⟩ := at_T40 bG.out aX p137 q137
         have hw137_1 := hx137_1
         have hw137_0 := hx137_0
         obtain rfl : ad135 = ad137 := (by injection e137)
         replace hx137_0 := (HB.out.cell (World.block_lt_of_cell? w _ hx137_0)).trans hx137_0
         replace hx137_1 := (HB.out.cell (World.block_lt_of_cell? w _ hx137_1)).trans hx137_1
         have bw := Aside0.mk hi137_1
         have bB := Aside0.mk hl137_1
         clear hi137_1 hl137_1
         replace p137 := eq_true p137
         replace q137 := eq_true q137
         have ea_ := Option.some.inj (hx135_1.symm.trans hx137_1)
         injection ea_ with ea_ en_ ec_
         subst ea_
         subst ec_
         clear en_
         refine start_ (n := 21) (S := fun w' => w'.cell? ⟨ab, 0, none⟩ = some (.string aK) ∧ w'.cell? ⟨ab, 1, none⟩ = some (.slice Ao22 aE.length co22) ∧ w'.cell? ⟨ab, 2, none⟩ = some (.string aQ) ∧ w'.cell? ⟨ab, 3, none⟩ = some (.string aU) ∧ w'.cell? ⟨ab, 4, none⟩ = some (.slice Ao21 aM.length co21) ∧ w'.cell? ⟨ab, 5, none⟩ = some (u135005) ∧ w'.cell? ⟨ab, 6, none⟩ = some (.slice Ao20 aT.length co20) ∧ w'.cell? ⟨ab, 7, none⟩ = some (.string aY) ∧ w'.cell? ⟨aa, 0, none⟩ = some (.string ak) ∧ w'.cell? ⟨aa, 1, none⟩ = some (.slice aq ah.length ar) ∧ w'.cell? ⟨aa, 2, none⟩ = some (.string al) ∧ w'.cell? ⟨aa, 3, none⟩ = some (.string am) ∧ w'.cell? ⟨aa, 4, none⟩ = some (.slice au ai.length av) ∧ w'.cell? ⟨aa, 5, none⟩ = some (.slice (some ad135) ag.length az) ∧ w'.cell? ⟨aa, 6, none⟩ = some (.slice aw aj.length ax) ∧ w'.cell? ⟨aa, 7, none⟩ = some (.string ao) ∧ w'.cell? (ad135.add ((aX).toNat * 2)) = some (.string ((rd_T40 ag aX).f0)) ∧ w'.cell? ⟨(ad135.add ((aX).toNat * 2)).block, (ad135.add ((aX).toNat * 2)).off + 1, none⟩ = some (.slice bu ((rd_T40 ag aX).f1).length bv) ∧ w'.cell? (ad135.add ((aX).toNat * 2)) = some (.string ((rd_T40 ag aX).f0)) ∧ w'.cell? ⟨(ad135.add ((aX).toNat * 2)).block, (ad135.add ((aX).toNat * 2)).off + 1, none⟩ = some (.slice bu ((rd_T40 ag aX).f1).length bv)) (ds := [20]) #[false, false, false, false, false, false, false, false, false, false, false, false, false, false, false, false, false, false, false, false, false] (by kernel_rfl) rfl rfl ⟨(bC_ af.out 0).trans rfl, (bC_ af.out 1).trans rfl, (bC_ af.out 2).trans rfl, (bC_ af.out 3).trans rfl, (bC_ af.out 4).trans rfl, (bC_ af.out 5).trans rfl, (bC_ af.out 6).trans rfl, (bC_ af.out 7).trans rfl, (bC_ ac.out 0).trans rfl, (bC_ ac.out 1).trans rfl, (bC_ ac.out 2).trans rfl, (bC_ ac.out 3).trans rfl, (bC_ ac.out 4).trans rfl, (bC_ ac.out 5).trans rfl, (bC_ ac.out 6).trans rfl, (bC_ ac.out 7).trans rfl, ((HB.out.cell (World.block_lt_of_cell? w _ hw135_0)).trans hw135_0), ((HB.out.cell (World.block_lt_of_cell? w _ hw135_1)).trans hw135_1), ((HB.out.cell (World.block_lt_of_cell? w _ hw137_0)).trans hw137_0), ((HB.out.cell (World.block_lt_of_cell? w _ hw137_1)).trans hw137_1)⟩ (fun hHeld => ?_); refine with_tabW isoglosslaw06_few.tab5 isoglosslaw06_few.bits5 (fun HT_ HW_ => ?_)
         generalize wc.drew = w45 at HO_135001 HO_135004 HO_135005 HO_135006 ac ae af HB bA bw hx135_0 hx135_1 hx137_0 hx137_1 hHeld ⊢
         refine pu_ (i := 0) (N := some 38) HT_ (bl_ 21 1) ?_
         refine pu_ (i := 2) (N := some 40) HT_ (bl_ 21 5) ?_
         refine pu_ (i := 4) (N := some 42) HT_ (bl_ 21 21) ?_
         refine pu_ (i := 9) (N := some 47) HT_ (bl_ 21 533) ?_
         refine pu_ (i := 11) (N := some 49) HT_ (bl_ 21 2581) ?_
         refine tk_ (i := 1) (N := some 39) HT_ HW_ (bl_ 21 2583) hHeld ?_ (hy := by rintro w' ⟨s0, s1, s2, s3, s4, s5, s6, s7, s8, s9, s10, s11, s12, s13, s14, s15, s16, s17, s18, s19⟩; go_simp; with_reducible rfl)
         refine tk_ (i := 3) (N := some 41) HT_ HW_ (bl_ 21 2591) hHeld ?_ (hy := by rintro w' ⟨s0, s1, s2, s3, s4, s5, s6, s7, s8, s9, s10, s11, s12, s13, s14, s15, s16, s17, s18, s19⟩; go_simp; with_reducible rfl)
         refine pu_ (i := 5) (N := some 43) HT_ (bl_ 21 2623) ?_
         refine pu_ (i := 6) (N := some 44) HT_ (bl_ 21 2687) ?_
         refine tk_ (i := 7) (N := some 45) HT_ HW_ (bl_ 21 2815) hHeld ?_ (hy := by rintro w' ⟨s0, s1, s2, s3, s4, s5, s6, s7, s8, s9, s10, s11, s12, s13, s14, s15, s16, s17, s18, s19⟩; go_simp; with_reducible rfl)
         refine tk_ (i := 10) (N := some 48) HT_ HW_ (bl_ 21 3839) hHeld ?_ (hy := by rintro w' ⟨s0, s1, s2, s3, s4, s5, s6, s7, s8, s9, s10, s11, s12, s13, s14, s15, s16, s17, s18, s19⟩; go_simp; with_reducible rfl)
         refine pu_ (i := 12) (N := some 50) HT_ (bl_ 21 7935) ?_
         refine pu_ (i := 13) (N := some 51) HT_ (bl_ 21 16127) ?_
         refine tk_ (i := 14) (N := some 52) HT_ HW_ (bl_ 21 32511) hHeld ?_ (hy := by rintro w' ⟨s0, s1, s2, s3, s4, s5, s6, s7, s8, s9, s10, s11, s12, s13, s14, s15, s16, s17, s18, s19⟩; go_simp; with_reducible rfl)
         refine on_ (i := 8) (N := some 46) HT_ (bl_ 21 32767) rfl rfl (fun K hK => ?_)
         refine goes_ Tryz.func15 (by kernel_rfl) rfl #[.string ((rd_T40 ag aX).f0)] (by rfl) rfl rfl Qm ?_
         with_reducible refine (isoglosslaw06_short.calls ((rd_T40 ag aX).f0) br _ dd.out).mono ?_
         rintro e w' ⟨rfl, ⟨nd, rfl⟩⟩
         refine ⟨_, rfl, ?_⟩
         refine hK.out _ _ ⟨(bC_ af.out 0).trans rfl, (bC_ af.out 1).trans rfl, (bC_ af.out 2).trans rfl, (bC_ af.out 3).trans rfl, (bC_ af.out 4).trans rfl, (bC_ af.out 5).trans rfl, (bC_ af.out 6).trans rfl, (bC_ af.out 7).trans rfl, (bC_ ac.out 0).trans rfl, (bC_ ac.out 1).trans rfl, (bC_ ac.out 2).trans rfl, (bC_ ac.out 3).trans rfl, (bC_ ac.out 4).trans rfl, (bC_ ac.out 5).trans rfl, (bC_ ac.out 6).trans rfl, (bC_ ac.out 7).trans rfl, ((HB.out.cell (World.block_lt_of_cell? w _ hw135_0)).trans hw135_0), ((HB.out.cell (World.block_lt_of_cell? w _ hw135_1)).trans hw135_1), ((HB.out.cell (World.block_lt_of_cell? w _ hw137_0)).trans hw137_0), ((HB.out.cell (World.block_lt_of_cell? w _ hw137_1)).trans hw137_1)⟩ (fun hHeld => ?_)
         clear hK K
         refine nm_ (some 46) ?_
         refine on_ (i := 15) (N := some 53) HT_ (bl_ 21 65535) rfl rfl (fun K hK => ?_)
         refine goes_ Tryz.func16 (by kernel_rfl) rfl #[.slice bu ((rd_T40 ag aX).f1).length bv] (by rfl) rfl rfl Qm ?_
         with_reducible refine (isoglosslaw06_row.calls kj30 _ _ ((rd_T40 ag aX).f1) bo _ ?side1 ?side2 de.out).mono ?_
         (case side1 => repeat (first | exact (cB_ bw.out (Qz HB.out ap.out ay.out aC.out)) | (with_reducible refine cA_ ?_ _) | (with_reducible refine cN_ ?_ _) | (with_reducible refine cD_ ?_)))
         (case side2 => exact bB.out)
         rintro e w46 ⟨v139, rfl, ho0, hb⟩
         refine ⟨_, rfl, ?_⟩
         have aH := Aside0.mk (rL_ (Qr HO_135001.out) (Kd.R_base ho0) hb)
         have aI := Aside0.mk (rL_ (Qr HO_135004.out) (Kd.R_base ho0) hb)
         have aJ := Aside0.mk (Kd.S_elder' (by (with_reducible repeat (first | apply tA_ | apply tN_ | apply tD_)); exact HO_135005.out) (Kd.R_base ho0) hb)
         have aR := Aside0.mk (rL_ (Qr HO_135006.out) (Kd.R_base ho0) hb)
         have aV := Aside0.mk (Kd.R_lower (Kd.R_new' (Kd.R_new' (Kd.R_new' ho0 (rT_ (Qr HO_135001.out))) (rT_ (Qr HO_135004.out))) (rT_ (Qr HO_135006.out))) (wZ_ (Qz HB.out ap.out ay.out aC.out)))
         have aW := Aside0.mk (blk_below (g := aa) (o := .cells #[.string ak, .slice aq ah.length ar, .string al, .string am, .slice au ai.length av, .slice (some ad135) ag.length az, .slice aw aj.length ax, .string ao] 25 (0, 0)) (Qb ac.out) hb)
         have aZ := Aside0.mk (blk_below (g := ad) (o := .cells #[.string (⟨#[]⟩ : ByteArray), .slice none 0 0, .string (⟨#[]⟩ : ByteArray), .string (⟨#[]⟩ : ByteArray), .slice none 0 0, .slice none 0 0, .slice none 0 0, .string (⟨#[]⟩ : ByteArray)] 25 (0, 0)) (Qb ae.out) hb)
         have a0 := Aside0.mk (blk_below (g := ab) (o := .cells #[.string aK, .slice Ao22 aE.length co22, .string aQ, .string aU, .slice Ao21 aM.length co21, u135005, .slice Ao20 aT.length co20, .string aY] 25 (0, 0)) (Qb af.out) hb)
         have a1 := Aside0.mk (wT_ (Qz HB.out ap.out ay.out aC.out) hb)
         clear HO_135001 HO_135004 HO_135005 HO_135006 ac ae af HB
         have HO_135001 := aH; have HO_135004 := aI; have HO_135005 := aJ; have HO_135006 := aR; have bx := aV; have ac := aW; have ae := aZ; have af := a0; have HB := a1
         clear aH aI aJ aR aV aW aZ a0 a1
         (try clear hb); (try clear hb2); (try clear hk); (try clear hi); (try clear ho0)
         obtain ⟨Ao47, co47, eo47⟩ := Kd.R_slice bx.out
         (first | subst eo47 | (injection eo47 with f1_ f2_ f3_; have f4_ := f1_.symm; have f5_ := f3_.symm; clear f1_ f2_ f3_; subst f4_; subst f5_))
         refine hK.out _ _ ⟨(bC_ af.out 0).trans rfl, (bC_ af.out 1).trans rfl, (bC_ af.out 2).trans rfl, (bC_ af.out 3).trans rfl, (bC_ af.out 4).trans rfl, (bC_ af.out 5).trans rfl, (bC_ af.out 6).trans rfl, (bC_ af.out 7).trans rfl, (bC_ ac.out 0).trans rfl, (bC_ ac.out 1).trans rfl, (bC_ ac.out 2).trans rfl, (bC_ ac.out 3).trans rfl, (bC_ ac.out 4).trans rfl, (bC_ ac.out 5).trans rfl, (bC_ ac.out 6).trans rfl, (bC_ ac.out 7).trans rfl, ((HB.out.cell (World.block_lt_of_cell? w _ hw135_0)).trans hw135_0), ((HB.out.cell (World.block_lt_of_cell? w _ hw135_1)).trans hw135_1), ((HB.out.cell (World.block_lt_of_cell? w _ hw137_0)).trans hw137_0), ((HB.out.cell (World.block_lt_of_cell? w _ hw137_1)).trans hw137_1)⟩ (fun hHeld => ?_)
         clear hK K
         refine nm_ (some 53) ?_
         refine pu_ (i := 16) (N := some 54) HT_ (bl_ 21 131071) ?_
         refine on_ (i := 17) (N := some 55) HT_ (bl_ 21 262143) rfl rfl (fun K hK => ?_)
         refine value_ (w1 := ?_) (v := ?_) (by rfl) rfl ?_ ?_
         rotate_left 2
         ·go_simp
          constructor
          ·rfl
          ·rfl
         refine hK.out _ _ ⟨(bC_ (bA_ af.out _) 0).trans rfl, (bC_ (bA_ af.out _) 1).trans rfl, (bC_ (bA_ af.out _) 2).trans rfl, (bC_ (bA_ af.out _) 3).trans rfl, (bC_ (bA_ af.out _) 4).trans rfl, (bC_ (bA_ af.out _) 5).trans rfl, (bC_ (bA_ af.out _) 6).trans rfl, (bC_ (bA_ af.out _) 7).trans rfl, (bC_ (bA_ ac.out _) 0).trans rfl, (bC_ (bA_ ac.out _) 1).trans rfl, (bC_ (bA_ ac.out _) 2).trans rfl, (bC_ (bA_ ac.out _) 3).trans rfl, (bC_ (bA_ ac.out _) 4).trans rfl, (bC_ (bA_ ac.out _) 5).trans rfl, (bC_ (bA_ ac.out _) 6).trans rfl, (bC_ (bA_ ac.out _) 7).trans rfl, (World.cell?_alloc_lt _ _ _ (World.block_lt_of_cell? _ _ (((HB.out.cell (World.block_lt_of_cell? w _ hw135_0)).trans hw135_0)))).trans (((HB.out.cell (World.block_lt_of_cell? w _ hw135_0)).trans hw135_0)), (World.cell?_alloc_lt _ _ _ (World.block_lt_of_cell? _ _ (((HB.out.cell (World.block_lt_of_cell? w _ hw135_1)).trans hw135_1)))).trans (((HB.out.cell (World.block_lt_of_cell? w _ hw135_1)).trans hw135_1)), (World.cell?_alloc_lt _ _ _ (World.block_lt_of_cell? _ _ (((HB.out.cell (World.block_lt_of_cell? w _ hw137_0)).trans hw137_0)))).trans (((HB.out.cell (World.block_lt_of_cell? w _ hw137_0)).trans hw137_0)), (World.cell?_alloc_lt _ _ _ (World.block_lt_of_cell? _ _ (((HB.out.cell (World.block_lt_of_cell? w _ hw137_1)).trans hw137_1)))).trans (((HB.out.cell (World.block_lt_of_cell? w _ hw137_1)).trans hw137_1))⟩ (fun hHeld => ?_)
         clear hK K
         refine nm_ (some 55) ?_
         refine on_ (i := 18) (N := some 56) HT_ (bl_ 21 524287) rfl rfl (fun K hK => ?_)
         refine Kd.S_append_step k40 (w0 := w) w.heap.size (by rfl) (.tmp 39) (.tmp 55) 23 40 (.agg #[(.string ⟨#[]⟩), (.slice none 0 0)]) 40 rfl Tryz.underlying23 info40 rfl (by decide) (by omega) u135005 aG (⟨br, bo⟩ : S40) [.string br, .slice Ao47 bo.length co47] (fun k_ => some k_ ≠ (.slice Ao22 aE.length co22 : Value).ownBlock ∧ some k_ ≠ (.slice Ao21 aM.length co21 : Value).ownBlock ∧ some k_ ≠ (.slice Ao20 aT.length co20 : Value).ownBlock) (fun k_ => some k_ = (.slice Ao47 bo.length co47 : Value).ownBlock) rfl rfl ?aP (fun k_ hk_ => ((rM_ (ok' := fun k_ => ((fun k_ => some k_ ≠ (.slice Ao22 aE.length co22 : Value).ownBlock ∧ some k_ ≠ (.slice Ao21 aM.length co21 : Value).ownBlock ∧ some k_ ≠ (.slice Ao20 aT.length co20 : Value).ownBlock)) k_ ∧ some k_ ≠ (u135005 : Value).ownBlock) (Kd.R_apart' (bx.out) (Kd.S_typed HO_135005.out) (by decide)) (fun k_ hk => ⟨⟨hk.1.1.1.2, ⟨hk.1.1.2, hk.1.2⟩⟩, hk.2⟩))).1 k_ hk_.symm) ?aF ?aO ?aB ?aS ?aL ?_
         (case aP => exact k40_mkM _ _ _ (⟨br, bo⟩ : S40) (rM_ (Kd.R_tight rfl (rM_ (ok' := fun k_ => ((fun k_ => some k_ ≠ (.slice Ao22 aE.length co22 : Value).ownBlock ∧ some k_ ≠ (.slice Ao21 aM.length co21 : Value).ownBlock ∧ some k_ ≠ (.slice Ao20 aT.length co20 : Value).ownBlock)) k_ ∧ some k_ ≠ (u135005 : Value).ownBlock) (Kd.R_apart' (bx.out) (Kd.S_typed HO_135005.out) (by decide)) (fun k_ hk => ⟨⟨hk.1.1.1.2, ⟨hk.1.1.2, hk.1.2⟩⟩, hk.2⟩))) (fun _ h_ => h_)))
         (case aB => exact (Qz HB.out ap.out ay.out aC.out))
         (case aF => exact (fun k_ hk => ⟨Kd.fresh' (rT_ (Qr HO_135001.out)) k_ hk, Kd.fresh' (rT_ (Qr HO_135004.out)) k_ hk, Kd.fresh' (rT_ (Qr HO_135006.out)) k_ hk⟩))
         (case aO => exact (by (with_reducible repeat (first | apply tA_ | apply tN_ | apply tD_)); exact Kd.S_mono HO_135005.out (fun k_ hk => ⟨⟨hk.1.1, ⟨hk.1.2.1, hk.1.2.2⟩⟩, fun e_ => hk.2 e_⟩)))
         (case aS => exact (wZ_ (Qz HB.out ap.out ay.out aC.out)))
         (case aL => have := bN.out; omega)
         intro v142 w48 ho hb hg hat
         rw [← bO.out] at ho
         have aH := Aside0.mk (Kd.R_over' (Qr HO_135001.out) (Kd.S_typed (by (with_reducible repeat (first | apply tA_ | apply tN_ | apply tD_)); exact HO_135005.out)) (by decide) hg)
         have aI := Aside0.mk (Kd.R_over' (Qr HO_135004.out) (Kd.S_typed (by (with_reducible repeat (first | apply tA_ | apply tN_ | apply tD_)); exact HO_135005.out)) (by decide) hg)
         have aJ := Aside0.mk (Kd.R_over' (Qr HO_135006.out) (Kd.S_typed (by (with_reducible repeat (first | apply tA_ | apply tN_ | apply tD_)); exact HO_135005.out)) (by decide) hg)
         have aR := Aside0.mk (blk_grown (g := aa) (o := .cells #[.string ak, .slice aq ah.length ar, .string al, .string am, .slice au ai.length av, .slice (some ad135) ag.length az, .slice aw aj.length ax, .string ao] 25 (0, 0)) (Qb ac.out) hg (Kd.S_ne HO_135005.out ac.out (by decide)))
         have aV := Aside0.mk (blk_grown (g := ad) (o := .cells #[.string (⟨#[]⟩ : ByteArray), .slice none 0 0, .string (⟨#[]⟩ : ByteArray), .string (⟨#[]⟩ : ByteArray), .slice none 0 0, .slice none 0 0, .slice none 0 0, .string (⟨#[]⟩ : ByteArray)] 25 (0, 0)) (Qb ae.out) hg (Kd.S_ne HO_135005.out ae.out (by decide)))
         have aW := Aside0.mk (blk_grown (g := ab) (o := .cells #[.string aK, .slice Ao22 aE.length co22, .string aQ, .string aU, .slice Ao21 aM.length co21, u135005, .slice Ao20 aT.length co20, .string aY] 25 (0, 0)) (Qb af.out) hg (Kd.S_ne HO_135005.out af.out (by decide)))
         have aZ := Aside0.mk (hb)
         have a0 := Aside0.mk (ho)
         clear HO_135001 HO_135004 HO_135006 ac ae af HB HO_135005 bx
         have HO_135001 := aH; have HO_135004 := aI; have HO_135006 := aJ; have ac := aR; have ae := aV; have af := aW; have HB := aZ; have bJ := a0
         clear aH aI aJ aR aV aW aZ a0 ho hb hg hat
         obtain ⟨Ao49, co49, eo49⟩ := Kd.S_slice bJ.out
         (first | subst eo49 | (injection eo49 with f1_ f2_ f3_; have f4_ := f1_.symm; have f5_ := f3_.symm; clear f1_ f2_ f3_; subst f4_; subst f5_))
         refine hK.out _ _ ⟨(bC_ af.out 0).trans rfl, (bC_ af.out 1).trans rfl, (bC_ af.out 2).trans rfl, (bC_ af.out 3).trans rfl, (bC_ af.out 4).trans rfl, (bC_ af.out 5).trans rfl, (bC_ af.out 6).trans rfl, (bC_ af.out 7).trans rfl, (bC_ ac.out 0).trans rfl, (bC_ ac.out 1).trans rfl, (bC_ ac.out 2).trans rfl, (bC_ ac.out 3).trans rfl, (bC_ ac.out 4).trans rfl, (bC_ ac.out 5).trans rfl, (bC_ ac.out 6).trans rfl, (bC_ ac.out 7).trans rfl, ((HB.out.cell (World.block_lt_of_cell? w _ hw135_0)).trans hw135_0), ((HB.out.cell (World.block_lt_of_cell? w _ hw135_1)).trans hw135_1), ((HB.out.cell (World.block_lt_of_cell? w _ hw137_0)).trans hw137_0), ((HB.out.cell (World.block_lt_of_cell? w _ hw137_1)).trans hw137_1)⟩ (fun hHeld => ?_)
         clear hK K
         refine nm_ (some 56) ?_
         refine pu_ (i := 19) (N := some 57) HT_ (bl_ 21 1048575) ?_
         refine last_ (i := 20) (N := none) #[true, true, true, true, true, true, true, true, true, true, true, true, true, true, true, true, true, true, true, true, true] rfl rfl (one_of HT_.out (by kernel_rfl)) (by decide) (fun K hK => ?_)
         have hs50 : w48.cell? ⟨ab, 5, none⟩ = some (u135005) := (bC_ af.out 5).trans rfl
         have hfs50 := bF_ af.out 5
         have hns50_0 := NB119_134.out
         have hns50_1 := NB120_134.out
         have hms50_0 := NB134_119.out
         have hms50_1 := NB134_120.out
         refine skip_ (w1 := ?_) (by rfl) rfl ?_ ?_
         rotate_left
         ·go_simp
          rfl
         refine hK.out _ _ ?_
         clear hK K
         refine done_ (done_of HT_.out (by kernel_rfl)) ?_
         try go_wp2
         go_roundg kj30
         case measure => have := HK1.out; have := HJ30.out; omega
         case rel => exact ⟨(wrap64 (aX + 1)), (bs), (.slice Ao49 bs.length co49), Qs, H', ⟨by have := HK1.out; have := HJ30.out; omega⟩, ⟨by (with_reducible repeat (first | apply rA_ | apply rN_ | apply rD_)); exact rM_ (Kd.R_far (p := ⟨ab, 5, none⟩) (Kd.R_types HO_135001.out af.out (by decide)) (fun _ hk => hk.2) (.slice Ao49 bs.length co49)) (fun _ hk => ⟨hk.1.1.1, hk.1.1.2⟩)⟩, ⟨by (with_reducible repeat (first | apply rA_ | apply rN_ | apply rD_)); exact rM_ (Kd.R_far (p := ⟨ab, 5, none⟩) (Kd.R_types HO_135004.out af.out (by decide)) (fun _ hk => hk.2) (.slice Ao49 bs.length co49)) (fun _ hk => ⟨hk.1.1.1, hk.1.1.2⟩)⟩, ⟨by (with_reducible repeat (first | apply tA_ | apply tN_ | apply tD_)); exact Kd.S_mono (Kd.S_far (p := ⟨ab, 5, none⟩) (Kd.S_types bJ.out af.out (by decide)) (fun _ hk => hk.2) (.slice Ao49 bs.length co49)) (fun _ hk => ⟨hk.1.1, ⟨hk.1.2.1, hk.1.2.2⟩⟩)⟩, ⟨by (with_reducible repeat (first | apply rA_ | apply rN_ | apply rD_)); exact rM_ (Kd.R_far (p := ⟨ab, 5, none⟩) (Kd.R_types HO_135006.out af.out (by decide)) (fun _ hk => hk.2) (.slice Ao49 bs.length co49)) (fun _ hk => ⟨hk.1.1.1, hk.1.1.2⟩)⟩, ⟨by (with_reducible repeat (first | refine bN_ ?_ _ | refine bD_ ?_ | refine bA_ ?_ _)); refine blk_far ?_ NB119_134.out _; (with_reducible repeat (first | refine bN_ ?_ _ | refine bD_ ?_ | refine bA_ ?_ _)); exact ac.out⟩, ⟨by (with_reducible repeat (first | refine bN_ ?_ _ | refine bD_ ?_ | refine bA_ ?_ _)); refine blk_far ?_ NB120_134.out _; (with_reducible repeat (first | refine bN_ ?_ _ | refine bD_ ?_ | refine bA_ ?_ _)); exact ae.out⟩, ⟨by (with_reducible repeat (first | refine bN_ ?_ _ | refine bD_ ?_ | refine bA_ ?_ _)); refine blk_put (cs := #[.string aK, .slice Ao22 aE.length co22, .string aQ, .string aU, .slice Ao21 aM.length co21, u135005, .slice Ao20 aT.length co20, .string aY]) ?_ 5 _ rfl; (with_reducible repeat (first | refine bN_ ?_ _ | refine bD_ ?_ | refine bA_ ?_ _)); exact af.out⟩, ⟨Qz HB.out ap.out ay.out aC.out⟩⟩
        ·rw [if_neg c44] at H
         exact absurd H (by simp)
       ·rw [if_neg c41] at H
        exact absurd H (by simp)
      ·rw [if_neg c40] at H
       exact absurd H (by simp)
     ·replace c39 := Bool.eq_false_iff.mpr c39
      subst c39
      rw [if_neg (show ¬ (false = true) by decide)] at H
      simp only [Option.some.injEq, Prod.mk.injEq] at H
      obtain ⟨rfl, rfl, rfl, rfl, rfl, rfl, rfl, rfl⟩ := H
      have hnb51 := NB134_119.out
      have hnc51 := NB119_134.out
      have hnb52 := NB134_120.out
      have hnc52 := NB120_134.out
      obtain ⟨cm, cn, co, cp, cq, cr, ct, cu, cv, cw, cx, cy, cz, cA, cB, cC⟩ := c8_2 af.out
      have hnb54 := NB120_119.out
      have hnc54 := NB119_120.out
      obtain ⟨cD, cE, cF, cG, cH, cI, cJ, cK, cL, cM, cN, cO, cP, cQ, cR, cS⟩ := c8_2 ae.out
      obtain ⟨Ao56, co56, eo56⟩ := Kd.S_slice HO_135005.out
      subst eo56
      go_wp2
      refine bodyPost_ret (results_cell_row rfl _ _ ad 25 #[.string aK, .slice Ao22 aE.length co22, .string aQ, .string aU, .slice Ao21 aM.length co21, .slice Ao56 aG.length co56, .slice Ao20 aT.length co20, .string aY] (0, 0) _ rfl (by (with_reducible repeat (first | refine bN_ ?_ _ | refine bD_ ?_ | refine bA_ ?_ _)); refine blk_put (cs := #[.string aK, .slice Ao22 aE.length co22, .string aQ, .string aU, .slice Ao21 aM.length co21, .slice Ao56 aG.length co56, .slice Ao20 aT.length co20, .string (⟨#[]⟩ : ByteArray)]) ?_ 7 _ rfl; (with_reducible repeat (first | refine bN_ ?_ _ | refine bD_ ?_ | refine bA_ ?_ _)); refine blk_put (cs := #[.string aK, .slice Ao22 aE.length co22, .string aQ, .string aU, .slice Ao21 aM.length co21, .slice Ao56 aG.length co56, .slice none 0 0, .string (⟨#[]⟩ : ByteArray)]) ?_ 6 _ rfl; (with_reducible repeat (first | refine bN_ ?_ _ | refine bD_ ?_ | refine bA_ ?_ _)); refine blk_put (cs := #[.string aK, .slice Ao22 aE.length co22, .string aQ, .string aU, .slice Ao21 aM.length co21, .slice none 0 0, .slice none 0 0, .string (⟨#[]⟩ : ByteArray)]) ?_ 5 _ rfl; (with_reducible repeat (first | refine bN_ ?_ _ | refine bD_ ?_ | refine bA_ ?_ _)); refine blk_put (cs := #[.string aK, .slice Ao22 aE.length co22, .string aQ, .string aU, .slice none 0 0, .slice none 0 0, .slice none 0 0, .string (⟨#[]⟩ : ByteArray)]) ?_ 4 _ rfl; (with_reducible repeat (first | refine bN_ ?_ _ | refine bD_ ?_ | refine bA_ ?_ _)); refine blk_put (cs := #[.string aK, .slice Ao22 aE.length co22, .string aQ, .string (⟨#[]⟩ : ByteArray), .slice none 0 0, .slice none 0 0, .slice none 0 0, .string (⟨#[]⟩ : ByteArray)]) ?_ 3 _ rfl; (with_reducible repeat (first | refine bN_ ?_ _ | refine bD_ ?_ | refine bA_ ?_ _)); refine blk_put (cs := #[.string aK, .slice Ao22 aE.length co22, .string (⟨#[]⟩ : ByteArray), .string (⟨#[]⟩ : ByteArray), .slice none 0 0, .slice none 0 0, .slice none 0 0, .string (⟨#[]⟩ : ByteArray)]) ?_ 2 _ rfl; (with_reducible repeat (first | refine bN_ ?_ _ | refine bD_ ?_ | refine bA_ ?_ _)); refine blk_put (cs := #[.string aK, .slice none 0 0, .string (⟨#[]⟩ : ByteArray), .string (⟨#[]⟩ : ByteArray), .slice none 0 0, .slice none 0 0, .slice none 0 0, .string (⟨#[]⟩ : ByteArray)]) ?_ 1 _ rfl; (with_reducible repeat (first | refine bN_ ?_ _ | refine bD_ ?_ | refine bA_ ?_ _)); refine blk_put (cs := #[.string (⟨#[]⟩ : ByteArray), .slice none 0 0, .string (⟨#[]⟩ : ByteArray), .string (⟨#[]⟩ : ByteArray), .slice none 0 0, .slice none 0 0, .slice none 0 0, .string (⟨#[]⟩ : ByteArray)]) ?_ 0 _ rfl; (with_reducible repeat (first | refine bN_ ?_ _ | refine bD_ ?_ | refine bA_ ?_ _)); exact ae.out) Tryz.underlying25 rfl (by kernel_rfl)) rfl ?_
      exact ⟨_, _, _, _, Qe, by (with_reducible repeat (first | apply rA_ | apply rN_ | apply rD_)); exact rM_ (Kd.R_far (p := ⟨ad, 7, none⟩) (Kd.R_far (p := ⟨ad, 6, none⟩) (Kd.R_far (p := ⟨ad, 5, none⟩) (Kd.R_far (p := ⟨ad, 4, none⟩) (Kd.R_far (p := ⟨ad, 3, none⟩) (Kd.R_far (p := ⟨ad, 2, none⟩) (Kd.R_far (p := ⟨ad, 1, none⟩) (Kd.R_far (p := ⟨ad, 0, none⟩) (Kd.R_types HO_135001.out ae.out (by decide)) (fun _ hk => hk.2) (.string aK)) (fun _ hk => hk.2) (.slice Ao22 aE.length co22)) (fun _ hk => hk.2) (.string aQ)) (fun _ hk => hk.2) (.string aU)) (fun _ hk => hk.2) (.slice Ao21 aM.length co21)) (fun _ hk => hk.2) (.slice Ao56 aG.length co56)) (fun _ hk => hk.2) (.slice Ao20 aT.length co20)) (fun _ hk => hk.2) (.string aY)) (fun _ hk => ⟨hk.1.1, hk.1.2⟩), by (with_reducible repeat (first | apply rA_ | apply rN_ | apply rD_)); exact rM_ (Kd.R_far (p := ⟨ad, 7, none⟩) (Kd.R_far (p := ⟨ad, 6, none⟩) (Kd.R_far (p := ⟨ad, 5, none⟩) (Kd.R_far (p := ⟨ad, 4, none⟩) (Kd.R_far (p := ⟨ad, 3, none⟩) (Kd.R_far (p := ⟨ad, 2, none⟩) (Kd.R_far (p := ⟨ad, 1, none⟩) (Kd.R_far (p := ⟨ad, 0, none⟩) (Kd.R_types HO_135004.out ae.out (by decide)) (fun _ hk => hk.2) (.string aK)) (fun _ hk => hk.2) (.slice Ao22 aE.length co22)) (fun _ hk => hk.2) (.string aQ)) (fun _ hk => hk.2) (.string aU)) (fun _ hk => hk.2) (.slice Ao21 aM.length co21)) (fun _ hk => hk.2) (.slice Ao56 aG.length co56)) (fun _ hk => hk.2) (.slice Ao20 aT.length co20)) (fun _ hk => hk.2) (.string aY)) (fun _ hk => ⟨hk.1.1, hk.1.2⟩), by (with_reducible repeat (first | apply tA_ | apply tN_ | apply tD_)); exact Kd.S_mono (Kd.S_far (p := ⟨ad, 7, none⟩) (Kd.S_far (p := ⟨ad, 6, none⟩) (Kd.S_far (p := ⟨ad, 5, none⟩) (Kd.S_far (p := ⟨ad, 4, none⟩) (Kd.S_far (p := ⟨ad, 3, none⟩) (Kd.S_far (p := ⟨ad, 2, none⟩) (Kd.S_far (p := ⟨ad, 1, none⟩) (Kd.S_far (p := ⟨ad, 0, none⟩) (Kd.S_types HO_135005.out ae.out (by decide)) (fun _ hk => hk.2) (.string aK)) (fun _ hk => hk.2) (.slice Ao22 aE.length co22)) (fun _ hk => hk.2) (.string aQ)) (fun _ hk => hk.2) (.string aU)) (fun _ hk => hk.2) (.slice Ao21 aM.length co21)) (fun _ hk => hk.2) (.slice Ao56 aG.length co56)) (fun _ hk => hk.2) (.slice Ao20 aT.length co20)) (fun _ hk => hk.2) (.string aY)) (fun _ hk => ⟨hk.1.1, ⟨hk.1.2.1, hk.1.2.2⟩⟩), by (with_reducible repeat (first | apply rA_ | apply rN_ | apply rD_)); exact rM_ (Kd.R_far (p := ⟨ad, 7, none⟩) (Kd.R_far (p := ⟨ad, 6, none⟩) (Kd.R_far (p := ⟨ad, 5, none⟩) (Kd.R_far (p := ⟨ad, 4, none⟩) (Kd.R_far (p := ⟨ad, 3, none⟩) (Kd.R_far (p := ⟨ad, 2, none⟩) (Kd.R_far (p := ⟨ad, 1, none⟩) (Kd.R_far (p := ⟨ad, 0, none⟩) (Kd.R_types HO_135006.out ae.out (by decide)) (fun _ hk => hk.2) (.string aK)) (fun _ hk => hk.2) (.slice Ao22 aE.length co22)) (fun _ hk => hk.2) (.string aQ)) (fun _ hk => hk.2) (.string aU)) (fun _ hk => hk.2) (.slice Ao21 aM.length co21)) (fun _ hk => hk.2) (.slice Ao56 aG.length co56)) (fun _ hk => hk.2) (.slice Ao20 aT.length co20)) (fun _ hk => hk.2) (.string aY)) (fun _ hk => ⟨hk.1.1, hk.1.2⟩), Qz HB.out ap.out ay.out aC.out⟩
end Go.Proofs.YtljadeeoaoiilaaGreatDoor.P
