-- Written for this claim by the session's own run of the print, functions proved by hand put in.
import Derived.Test.YtljadeeoaoiilaaPx0
import Derived.Test.YtljadeeoaoiilaaPx8
namespace Go.Proofs.Ytljadeeoaoiilaa.P
open Go.RowKit Go.Proofs.YtljadeeoaoiilaaW.PrintWords Go.Proofs.YtljadeeoaoiilaaW.PrintLast Go.Proofs.YtljadeeoaoiilaaW.PrintMore
open Go.Proofs.YtljadeeoaoiilaaW.PrintWords.Aside0 renaming mk → M_
open List renaming setIfInBounds_toArray → sA_, set_cons_zero → sB_, set_cons_succ → sC_
open Go.Proofs.YtljadeeoaoiilaaW.PrintWords renaming blk_alloc → bA_, blk_drewN → bN_, blk_drew → bD_, blk_frozen → bF_, blk_cell → bC_, below_alloc → wA_, pw_below_drewN → wN_, below_drew1 → wD_, below_set → wS_, below_size → wZ_, below_step → wT_
open Go.Proofs.YtljadeeoaoiilaaW.PrintWords.Kd renaming R_alloc → rA_, R_drewN → rN_, R_drew → rD_, C_alloc → cA_, C_drewN → cN_, C_drew → cD_, C_below → cB_, S_alloc → tA_, S_drewN → tN_, S_drew → tD_, R_mono → rM_, R_elder' → rL_, R_lt → rT_
theorem c8_9 {w : World} {g : Nat} {t : TypeId} {x0 x1 x2 x3 x4 x5 x6 x7 : Value} (h : w.heap[g]? = some (.cells #[x0, x1, x2, x3, x4, x5, x6, x7] t (0, 0))) : w.cell? ⟨g, 0, none⟩ = some x0 ∧ w.cell? ⟨g, 1, none⟩ = some x1 ∧ w.cell? ⟨g, 2, none⟩ = some x2 ∧ w.cell? ⟨g, 3, none⟩ = some x3 ∧ w.cell? ⟨g, 4, none⟩ = some x4 ∧ w.cell? ⟨g, 5, none⟩ = some x5 ∧ w.cell? ⟨g, 6, none⟩ = some x6 ∧ w.cell? ⟨g, 7, none⟩ = some x7 ∧ w.frozen? ⟨g, 0, none⟩ = false ∧ w.frozen? ⟨g, 1, none⟩ = false ∧ w.frozen? ⟨g, 2, none⟩ = false ∧ w.frozen? ⟨g, 3, none⟩ = false ∧ w.frozen? ⟨g, 4, none⟩ = false ∧ w.frozen? ⟨g, 5, none⟩ = false ∧ w.frozen? ⟨g, 6, none⟩ = false ∧ w.frozen? ⟨g, 7, none⟩ = false :=
  ⟨(Go.Proofs.YtljadeeoaoiilaaW.PrintWords.blk_cell h 0).trans rfl, (Go.Proofs.YtljadeeoaoiilaaW.PrintWords.blk_cell h 1).trans rfl, (Go.Proofs.YtljadeeoaoiilaaW.PrintWords.blk_cell h 2).trans rfl, (Go.Proofs.YtljadeeoaoiilaaW.PrintWords.blk_cell h 3).trans rfl, (Go.Proofs.YtljadeeoaoiilaaW.PrintWords.blk_cell h 4).trans rfl, (Go.Proofs.YtljadeeoaoiilaaW.PrintWords.blk_cell h 5).trans rfl, (Go.Proofs.YtljadeeoaoiilaaW.PrintWords.blk_cell h 6).trans rfl, (Go.Proofs.YtljadeeoaoiilaaW.PrintWords.blk_cell h 7).trans rfl, Go.Proofs.YtljadeeoaoiilaaW.PrintWords.blk_frozen h 0, Go.Proofs.YtljadeeoaoiilaaW.PrintWords.blk_frozen h 1, Go.Proofs.YtljadeeoaoiilaaW.PrintWords.blk_frozen h 2, Go.Proofs.YtljadeeoaoiilaaW.PrintWords.blk_frozen h 3, Go.Proofs.YtljadeeoaoiilaaW.PrintWords.blk_frozen h 4, Go.Proofs.YtljadeeoaoiilaaW.PrintWords.blk_frozen h 5, Go.Proofs.YtljadeeoaoiilaaW.PrintWords.blk_frozen h 6, Go.Proofs.YtljadeeoaoiilaaW.PrintWords.blk_frozen h 7⟩
attribute [local go_sem] max2_int min2_int max_two min_two max_three min_three max_four min_four   -- for this text's walks alone
set_option linter.unusedVariables false
set_option linter.unusedSimpArgs false
mutual
def isoglosslaw06_few.l0 : Nat → Int → ByteArray → List ByteArray → ByteArray → ByteArray → List ByteArray → List (S44) → List ByteArray → ByteArray → ByteArray → List ByteArray → ByteArray → ByteArray → List ByteArray → List (S44) → List ByteArray → ByteArray → Option (ByteArray × List ByteArray × ByteArray × ByteArray × List ByteArray × (List (S44)) × List ByteArray × ByteArray)
 | 0, _, _, _, _, _, _, _, _, _, _, _, _, _, _, _, _, _ => none
 | k + 1, x4, x335000, x335001, x335002, x335003, x335004, x335005, x335006, x335007, x350000, x350001, x350002, x350003, x350004, x350005, x350006, x350007 => if x4 < (x335005.length : Int) then (isoglosslaw06_few.j1 k x4 (decide (x4 < 4)) x335000 x335001 x335002 x335003 x335004 x335005 x335006 x335007 x350000 x350001 x350002 x350003 x350004 x350005 x350006 x350007) else (isoglosslaw06_few.j1 k x4 false x335000 x335001 x335002 x335003 x335004 x335005 x335006 x335007 x350000 x350001 x350002 x350003 x350004 x350005 x350006 x350007)
def isoglosslaw06_few.j1 : Nat → Int → Bool → ByteArray → List ByteArray → ByteArray → ByteArray → List ByteArray → List (S44) → List ByteArray → ByteArray → ByteArray → List ByteArray → ByteArray → ByteArray → List ByteArray → List (S44) → List ByteArray → ByteArray → Option (ByteArray × List ByteArray × ByteArray × ByteArray × List ByteArray × (List (S44)) × List ByteArray × ByteArray)
 | 0, _, _, _, _, _, _, _, _, _, _, _, _, _, _, _, _, _, _ => none
 | k + 1, x4, x35, x335000, x335001, x335002, x335003, x335004, x335005, x335006, x335007, x350000, x350001, x350002, x350003, x350004, x350005, x350006, x350007 => if x35 = true then (if 0 ≤ x4 then (if x4 < (x335005.length : Int) then ((isoglosslaw06_short.f ((rd_T44 x335005 x4).f0)).bind fun t351 => ((isoglosslaw06_row.f k ((rd_T44 x335005 x4).f1)).bind fun t353 => (if x350005.length < 3518437208883 then (isoglosslaw06_few.l0 k (wrap64 (x4 + 1)) x335000 x335001 x335002 x335003 x335004 x335005 x335006 x335007 x350000 x350001 x350002 x350003 x350004 (x350005 ++ [(⟨t351, t353⟩ : S44)]) x350006 x350007) else (none)))) else (none)) else (none)) else (some (x350000, x350001, x350002, x350003, x350004, x350005, x350006, x350007))
end
def isoglosslaw06_few.f (k : Nat) (a0_0 : ByteArray) (l0_1 : List ByteArray) (a0_2 : ByteArray) (a0_3 : ByteArray) (l0_4 : List ByteArray) (l0_5 : List (S44)) (l0_6 : List ByteArray) (a0_7 : ByteArray) : Option (ByteArray × List ByteArray × ByteArray × ByteArray × List ByteArray × (List (S44)) × List ByteArray × ByteArray) := (isoglosslaw06_short.f a0_0).bind fun t336 => ((isoglosslaw06_short.f a0_2).bind fun t337 => ((isoglosslaw06_short.f a0_3).bind fun t338 => ((isoglosslaw06_short.f a0_7).bind fun t339 => ((isoglosslaw06_row.f k l0_1).bind fun t340 => ((isoglosslaw06_row.f k l0_4).bind fun t343 => ((isoglosslaw06_row.f k l0_6).bind fun t346 => (isoglosslaw06_few.l0 k 0 a0_0 l0_1 a0_2 a0_3 l0_4 l0_5 l0_6 a0_7 t336 t340 t337 t338 t343 ([] : List (S44)) t346 t339)))))))
def isoglosslaw06_few.T1 : Bool × List (List Nat × List Nat) := (true, [([], []), ([0], [0]), ([1], [1]), ([], []), ([3], [3]), ([4, 2], [4]), ([], []), ([6], [6]), ([7, 5], [7]), ([], []), ([9], [9]), ([10, 8], [10]), ([], []), ([12], [12]), ([13, 11], [13]), ([], []), ([15], [15]), ([16, 14], [16]), ([], []), ([18], [18]), ([19, 17], [19]), ([2, 5, 8, 11, 14, 17, 20], [2, 5, 8, 11, 14, 17, 20]), ([], []), ([22, 21, 20, 0, 1, 2, 3, 4, 5, 6, 7, 8, 9, 10, 11, 12, 13, 14, 15, 16, 17, 18, 19, 20, 21, 22], [21, 22])])
def isoglosslaw06_few.B1 : List Nat := [0, 1, 3, 0, 8, 31, 0, 64, 255, 0, 512, 2047, 0, 4096, 16383, 0, 32768, 131071, 0, 262144, 1048575, 2097151, 0, 8388607]
theorem isoglosslaw06_few.tab1 : rtab .any (opsOf Try.f11 1) = isoglosslaw06_few.T1 := by kernel_rfl
theorem isoglosslaw06_few.bits1 : waitsOk isoglosslaw06_few.T1.2 isoglosslaw06_few.B1 = true := by kernel_rfl
def isoglosslaw06_few.T5 : Bool × List (List Nat × List Nat) := (true, [([], []), ([0], [0]), ([], []), ([2], [2]), ([], []), ([3, 4], [3, 4]), ([5], [5]), ([6], [6]), ([7], [7]), ([], []), ([9], [9]), ([], []), ([10, 11], [10, 11]), ([12], [12]), ([13], [13]), ([14, 8], [14]), ([8, 15], [8, 15]), ([16], [16]), ([1, 17, 15], [1, 17]), ([0, 1, 2, 3, 4, 5, 6, 7, 8, 9, 10, 11, 12, 13, 14, 15, 16, 17, 18], []), ([19, 18, 18, 0, 1, 2, 3, 4, 5, 6, 7, 8, 9, 10, 11, 12, 13, 14, 15, 16, 17, 18], [18, 19])])
def isoglosslaw06_few.B5 : List Nat := [0, 1, 0, 4, 0, 28, 60, 124, 252, 0, 512, 0, 3584, 7680, 15872, 32764, 65532, 131068, 262143, 524287, 1048575]
theorem isoglosslaw06_few.tab5 : rtab .any (opsOf Try.f11 5) = isoglosslaw06_few.T5 := by kernel_rfl
theorem isoglosslaw06_few.bits5 : waitsOk isoglosslaw06_few.T5.2 isoglosslaw06_few.B5 = true := by kernel_rfl
set_option maxHeartbeats 8000000 in
set_option maxRecDepth 100000 in
theorem isoglosslaw06_few.calls (k : Nat) (a0_0 : ByteArray) (A0_1 : Option Addr) (c0_1 : Nat) (l0_1 : List ByteArray) (a0_2 : ByteArray) (a0_3 : ByteArray) (A0_4 : Option Addr) (c0_4 : Nat) (l0_4 : List ByteArray) (A0_5 : Option Addr) (c0_5 : Nat) (l0_5 : List (S44)) (A0_6 : Option Addr) (c0_6 : Nat) (l0_6 : List ByteArray) (a0_7 : ByteArray) (r1 : ByteArray) (r2 : List ByteArray) (r3 : ByteArray) (r4 : ByteArray) (r5 : List ByteArray) (r6 : List (S44)) (r7 : List ByteArray) (r8 : ByteArray) (w : World) (hr0_1 : Kd.C Kd.string w A0_1 l0_1.length l0_1) (hc0_1 : l0_1.length ≤ c0_1) (hr0_4 : Kd.C Kd.string w A0_4 l0_4.length l0_4) (hc0_4 : l0_4.length ≤ c0_4) (hr0_5 : Kd.C k44 w A0_5 l0_5.length l0_5) (hc0_5 : l0_5.length ≤ c0_5) (hr0_6 : Kd.C Kd.string w A0_6 l0_6.length l0_6) (hc0_6 : l0_6.length ≤ c0_6) (h : isoglosslaw06_few.f k a0_0 l0_1 a0_2 a0_3 l0_4 l0_5 l0_6 a0_7 = some (r1, r2, r3, r4, r5, r6, r7, r8)) :
  Calls Try.prog 11 #[.agg #[.string a0_0, .slice A0_1 l0_1.length c0_1, .string a0_2, .string a0_3, .slice A0_4 l0_4.length c0_4, .slice A0_5 l0_5.length c0_5, .slice A0_6 l0_6.length c0_6, .string a0_7]] w fun e w' => ∃ v1_ v4_ v5_ v6_ : Value, e = .returned (.agg #[.string r1, v1_, .string r3, .string r4, v4_, v5_, v6_, .string r8]) ∧ Kd.R Kd.string 9 w' w.heap.size (fun k_ => some k_ ≠ (v4_ : Value).ownBlock ∧ some k_ ≠ (v6_ : Value).ownBlock) v1_ r2 ∧ Kd.R Kd.string 9 w' w.heap.size (fun k_ => some k_ ≠ (v1_ : Value).ownBlock ∧ some k_ ≠ (v6_ : Value).ownBlock) v4_ r5 ∧ Kd.S k44 44 w' w.heap.size (fun k_ => some k_ ≠ (v1_ : Value).ownBlock ∧ some k_ ≠ (v4_ : Value).ownBlock ∧ some k_ ≠ (v6_ : Value).ownBlock) v5_ r6 ∧ Kd.R Kd.string 9 w' w.heap.size (fun k_ => some k_ ≠ (v1_ : Value).ownBlock ∧ some k_ ≠ (v4_ : Value).ownBlock) v6_ r7 ∧ Below w.heap.size w w' := by
 have hu28 := Try.underlying28
 have hu44 := Try.underlying44
 have HR0_1 := M_ hr0_1
 have HC0_1 := M_ hc0_1
 clear hr0_1 hc0_1
 have HR0_4 := M_ hr0_4
 have HC0_4 := M_ hc0_4
 clear hr0_4 hc0_4
 have HR0_5 := M_ hr0_5
 have HC0_5 := M_ hc0_5
 clear hr0_5 hc0_5
 have HR0_6 := M_ hr0_6
 have HC0_6 := M_ hc0_6
 clear hr0_6 hc0_6
 have HB := M_ (Below.refl w.heap.size w)
 have H : ((isoglosslaw06_short.f a0_0).bind fun t336 => ((isoglosslaw06_short.f a0_2).bind fun t337 => ((isoglosslaw06_short.f a0_3).bind fun t338 => ((isoglosslaw06_short.f a0_7).bind fun t339 => ((isoglosslaw06_row.f k l0_1).bind fun t340 => ((isoglosslaw06_row.f k l0_4).bind fun t343 => ((isoglosslaw06_row.f k l0_6).bind fun t346 => (isoglosslaw06_few.l0 k 0 a0_0 l0_1 a0_2 a0_3 l0_4 l0_5 l0_6 a0_7 t336 t340 t337 t338 t343 ([] : List (S44)) t346 t339)))))))) = some (r1, r2, r3, r4, r5, r6, r7, r8) := h
 clear h
 replace H := Option.bind_eq_some_iff.mp H
 obtain ⟨t336, A20, H⟩ := H
 replace H : ((isoglosslaw06_short.f a0_2).bind fun t337 => ((isoglosslaw06_short.f a0_3).bind fun t338 => ((isoglosslaw06_short.f a0_7).bind fun t339 => ((isoglosslaw06_row.f k l0_1).bind fun t340 => ((isoglosslaw06_row.f k l0_4).bind fun t343 => ((isoglosslaw06_row.f k l0_6).bind fun t346 => (isoglosslaw06_few.l0 k 0 a0_0 l0_1 a0_2 a0_3 l0_4 l0_5 l0_6 a0_7 t336 t340 t337 t338 t343 ([] : List (S44)) t346 t339))))))) = some (r1, r2, r3, r4, r5, r6, r7, r8) := H
 have A2 := M_ A20
 clear A20
 replace H := Option.bind_eq_some_iff.mp H
 obtain ⟨t337, A30, H⟩ := H
 replace H : ((isoglosslaw06_short.f a0_3).bind fun t338 => ((isoglosslaw06_short.f a0_7).bind fun t339 => ((isoglosslaw06_row.f k l0_1).bind fun t340 => ((isoglosslaw06_row.f k l0_4).bind fun t343 => ((isoglosslaw06_row.f k l0_6).bind fun t346 => (isoglosslaw06_few.l0 k 0 a0_0 l0_1 a0_2 a0_3 l0_4 l0_5 l0_6 a0_7 t336 t340 t337 t338 t343 ([] : List (S44)) t346 t339)))))) = some (r1, r2, r3, r4, r5, r6, r7, r8) := H
 have A3 := M_ A30
 clear A30
 replace H := Option.bind_eq_some_iff.mp H
 obtain ⟨t338, A40, H⟩ := H
 replace H : ((isoglosslaw06_short.f a0_7).bind fun t339 => ((isoglosslaw06_row.f k l0_1).bind fun t340 => ((isoglosslaw06_row.f k l0_4).bind fun t343 => ((isoglosslaw06_row.f k l0_6).bind fun t346 => (isoglosslaw06_few.l0 k 0 a0_0 l0_1 a0_2 a0_3 l0_4 l0_5 l0_6 a0_7 t336 t340 t337 t338 t343 ([] : List (S44)) t346 t339))))) = some (r1, r2, r3, r4, r5, r6, r7, r8) := H
 have A4 := M_ A40
 clear A40
 replace H := Option.bind_eq_some_iff.mp H
 obtain ⟨t339, A50, H⟩ := H
 replace H : ((isoglosslaw06_row.f k l0_1).bind fun t340 => ((isoglosslaw06_row.f k l0_4).bind fun t343 => ((isoglosslaw06_row.f k l0_6).bind fun t346 => (isoglosslaw06_few.l0 k 0 a0_0 l0_1 a0_2 a0_3 l0_4 l0_5 l0_6 a0_7 t336 t340 t337 t338 t343 ([] : List (S44)) t346 t339)))) = some (r1, r2, r3, r4, r5, r6, r7, r8) := H
 have A5 := M_ A50
 clear A50
 replace H := Option.bind_eq_some_iff.mp H
 obtain ⟨t340, A60, H⟩ := H
 replace H : ((isoglosslaw06_row.f k l0_4).bind fun t343 => ((isoglosslaw06_row.f k l0_6).bind fun t346 => (isoglosslaw06_few.l0 k 0 a0_0 l0_1 a0_2 a0_3 l0_4 l0_5 l0_6 a0_7 t336 t340 t337 t338 t343 ([] : List (S44)) t346 t339))) = some (r1, r2, r3, r4, r5, r6, r7, r8) := H
 have A6 := M_ A60
 clear A60
 replace H := Option.bind_eq_some_iff.mp H
 obtain ⟨t343, A70, H⟩ := H
 replace H : ((isoglosslaw06_row.f k l0_6).bind fun t346 => (isoglosslaw06_few.l0 k 0 a0_0 l0_1 a0_2 a0_3 l0_4 l0_5 l0_6 a0_7 t336 t340 t337 t338 t343 ([] : List (S44)) t346 t339)) = some (r1, r2, r3, r4, r5, r6, r7, r8) := H
 have A7 := M_ A70
 clear A70
 replace H := Option.bind_eq_some_iff.mp H
 obtain ⟨t346, A80, H⟩ := H
 replace H : (isoglosslaw06_few.l0 k 0 a0_0 l0_1 a0_2 a0_3 l0_4 l0_5 l0_6 a0_7 t336 t340 t337 t338 t343 ([] : List (S44)) t346 t339) = some (r1, r2, r3, r4, r5, r6, r7, r8) := H
 have A8 := M_ A80
 clear A80
 have H' := M_ H
 clear H
 go_enter Try.func11, Try.ntmps11
 try go_wp2_with (first | ((with_reducible refine gate_dst (N := 1) rfl ?_); refine box_event ?hg (N := 1) ?hd (cs := #[.string a0_0, .slice A0_1 l0_1.length c0_1, .string a0_2, .string a0_3, .slice A0_4 l0_4.length c0_4, .slice A0_5 l0_5.length c0_5, .slice A0_6 l0_6.length c0_6, .string a0_7]) (t := 28) ?hr ?_; (case hd => rfl); (case hg => rfl); (case hr => first | (go_simp; done) | (go_simp; rfl)); intro gb334 hg w9 hbox hb; have n0_ := M_ (wT_ (by repeat (first | (with_reducible first | exact HB.out | apply wA_ | apply wN_ | apply wD_) | exact HB.out)) hb); have n1_ := M_ (hbox); have n2_ := M_ ((by rw [hg]; exact (wZ_ (by repeat (first | (with_reducible first | exact HB.out | apply wA_ | apply wN_ | apply wD_) | exact HB.out))) : w.heap.size ≤ gb334)); have n3_ := M_ ((by rw [hg]; exact (wZ_ (by repeat (first | (with_reducible first | exact HB.out | apply wA_ | apply wN_ | apply wD_) | exact HB.out))) : w.heap.size ≤ gb334)); clear HB; have HB := n0_; have BK334 := n1_; have GW334 := n2_; have GE334 := n3_; clear n0_ n1_ n2_ n3_; clear hb hbox hg) | ((with_reducible refine gate_dst (N := 2) rfl ?_); refine box_event ?hg (N := 2) ?hd (cs := #[.string ⟨#[]⟩, .slice none 0 0, .string ⟨#[]⟩, .string ⟨#[]⟩, .slice none 0 0, .slice none 0 0, .slice none 0 0, .string ⟨#[]⟩]) (t := 28) ?hr ?_; (case hd => rfl); (case hg => rfl); (case hr => first | (go_simp; done) | (go_simp; rfl)); intro gb335 hg w10 hbox hb; have n0_ := M_ (blk_below (g := gb334) (o := .cells #[.string a0_0, .slice A0_1 l0_1.length c0_1, .string a0_2, .string a0_3, .slice A0_4 l0_4.length c0_4, .slice A0_5 l0_5.length c0_5, .slice A0_6 l0_6.length c0_6, .string a0_7] 28 (0, 0)) (by (with_reducible repeat (first | refine bN_ ?_ _ | refine bD_ ?_ | refine bA_ ?_ _)); exact BK334.out) hb); have n1_ := M_ (wT_ (by repeat (first | (with_reducible first | exact HB.out | apply wA_ | apply wN_ | apply wD_ | refine wS_ ?_ GE334.out) | exact HB.out)) hb); have n2_ := M_ (hbox); have n3_ := M_ ((by rw [hg]; exact (wZ_ (by repeat (first | (with_reducible first | exact HB.out | apply wA_ | apply wN_ | apply wD_ | refine wS_ ?_ GE334.out) | exact HB.out))) : w.heap.size ≤ gb335)); have n4_ := M_ ((by rw [hg]; exact (wZ_ (by repeat (first | (with_reducible first | exact HB.out | apply wA_ | apply wN_ | apply wD_ | refine wS_ ?_ GE334.out) | exact HB.out))) : w.heap.size ≤ gb335)); have n5_ := M_ ((by rw [hg]; exact Nat.ne_of_lt (blk_lt (g := gb334) (o := .cells #[.string a0_0, .slice A0_1 l0_1.length c0_1, .string a0_2, .string a0_3, .slice A0_4 l0_4.length c0_4, .slice A0_5 l0_5.length c0_5, .slice A0_6 l0_6.length c0_6, .string a0_7] 28 (0, 0)) (by (with_reducible repeat (first | refine bN_ ?_ _ | refine bD_ ?_ | refine bA_ ?_ _)); exact BK334.out)) : gb334 ≠ gb335)); have n6_ := M_ ((by rw [hg]; exact Nat.ne_of_gt (blk_lt (g := gb334) (o := .cells #[.string a0_0, .slice A0_1 l0_1.length c0_1, .string a0_2, .string a0_3, .slice A0_4 l0_4.length c0_4, .slice A0_5 l0_5.length c0_5, .slice A0_6 l0_6.length c0_6, .string a0_7] 28 (0, 0)) (by (with_reducible repeat (first | refine bN_ ?_ _ | refine bD_ ?_ | refine bA_ ?_ _)); exact BK334.out)) : gb335 ≠ gb334)); clear BK334; clear HB; have BK334 := n0_; have HB := n1_; have BK335 := n2_; have GW335 := n3_; have GE335 := n4_; have NB334_335 := n5_; have NB335_334 := n6_; clear n0_ n1_ n2_ n3_ n4_ n5_ n6_; clear hb hbox hg))
 have n0_ := M_ (bD_ BK334.out)
 have n1_ := M_ (bD_ BK335.out)
 have n2_ := M_ (wD_ HB.out)
 clear BK334 BK335 HB
 have BK334 := n0_; have BK335 := n1_; have HB := n2_
 clear n0_ n1_ n2_
 refine start_ (n := 24) (S := fun w' => w'.cell? ⟨gb334, 0, none⟩ = some (.string a0_0) ∧ w'.cell? ⟨gb334, 1, none⟩ = some (.slice A0_1 l0_1.length c0_1) ∧ w'.cell? ⟨gb334, 2, none⟩ = some (.string a0_2) ∧ w'.cell? ⟨gb334, 3, none⟩ = some (.string a0_3) ∧ w'.cell? ⟨gb334, 4, none⟩ = some (.slice A0_4 l0_4.length c0_4) ∧ w'.cell? ⟨gb334, 5, none⟩ = some (.slice A0_5 l0_5.length c0_5) ∧ w'.cell? ⟨gb334, 6, none⟩ = some (.slice A0_6 l0_6.length c0_6) ∧ w'.cell? ⟨gb334, 7, none⟩ = some (.string a0_7)) (ds := []) #[false, false, false, false, false, false, false, false, false, false, false, false, false, false, false, false, false, false, false, false, false, false, false, false] (by kernel_rfl) rfl rfl ⟨(bC_ BK334.out 0).trans rfl, (bC_ BK334.out 1).trans rfl, (bC_ BK334.out 2).trans rfl, (bC_ BK334.out 3).trans rfl, (bC_ BK334.out 4).trans rfl, (bC_ BK334.out 5).trans rfl, (bC_ BK334.out 6).trans rfl, (bC_ BK334.out 7).trans rfl⟩ (fun hHeld => ?_); refine with_tabW isoglosslaw06_few.tab1 isoglosslaw06_few.bits1 (fun HT_ HW_ => ?_)
 generalize w10.drew = w11 at BK334 BK335 HB hHeld ⊢
 refine pure_ (i := 0) (N := some 5) (v := ?_) (a' := ?_) #[true, false, false, false, false, false, false, false, false, false, false, false, false, false, false, false, false, false, false, false, false, false, false, false] rfl rfl (any_of HT_.out (by kernel_rfl)) (fun _ _ _ h => h) (Or.inl ⟨by rfl, ?_⟩) ?_ ?_
 rotate_left
 ·intro w'
  go_simp
  with_reducible rfl
 rotate_left
 ·simp only [Act.put, sA_, sB_, sC_, i64_w, i32_w]
  rfl
 refine pure_ (i := 3) (N := some 8) (v := ?_) (a' := ?_) #[true, false, false, true, false, false, false, false, false, false, false, false, false, false, false, false, false, false, false, false, false, false, false, false] rfl rfl (any_of HT_.out (by kernel_rfl)) (fun _ _ _ h => h) (Or.inl ⟨by rfl, ?_⟩) ?_ ?_
 rotate_left
 ·intro w'
  go_simp
  with_reducible rfl
 rotate_left
 ·simp only [Act.put, sA_, sB_, sC_, i64_w, i32_w]
  rfl
 refine pure_ (i := 6) (N := some 11) (v := ?_) (a' := ?_) #[true, false, false, true, false, false, true, false, false, false, false, false, false, false, false, false, false, false, false, false, false, false, false, false] rfl rfl (any_of HT_.out (by kernel_rfl)) (fun _ _ _ h => h) (Or.inl ⟨by rfl, ?_⟩) ?_ ?_
 rotate_left
 ·intro w'
  go_simp
  with_reducible rfl
 rotate_left
 ·simp only [Act.put, sA_, sB_, sC_, i64_w, i32_w]
  rfl
 refine pure_ (i := 9) (N := some 14) (v := ?_) (a' := ?_) #[true, false, false, true, false, false, true, false, false, true, false, false, false, false, false, false, false, false, false, false, false, false, false, false] rfl rfl (any_of HT_.out (by kernel_rfl)) (fun _ _ _ h => h) (Or.inl ⟨by rfl, ?_⟩) ?_ ?_
 rotate_left
 ·intro w'
  go_simp
  with_reducible rfl
 rotate_left
 ·simp only [Act.put, sA_, sB_, sC_, i64_w, i32_w]
  rfl
 refine pure_ (i := 12) (N := some 17) (v := ?_) (a' := ?_) #[true, false, false, true, false, false, true, false, false, true, false, false, true, false, false, false, false, false, false, false, false, false, false, false] rfl rfl (any_of HT_.out (by kernel_rfl)) (fun _ _ _ h => h) (Or.inl ⟨by rfl, ?_⟩) ?_ ?_
 rotate_left
 ·intro w'
  go_simp
  with_reducible rfl
 rotate_left
 ·simp only [Act.put, sA_, sB_, sC_, i64_w, i32_w]
  rfl
 refine pure_ (i := 15) (N := some 20) (v := ?_) (a' := ?_) #[true, false, false, true, false, false, true, false, false, true, false, false, true, false, false, true, false, false, false, false, false, false, false, false] rfl rfl (any_of HT_.out (by kernel_rfl)) (fun _ _ _ h => h) (Or.inl ⟨by rfl, ?_⟩) ?_ ?_
 rotate_left
 ·intro w'
  go_simp
  with_reducible rfl
 rotate_left
 ·simp only [Act.put, sA_, sB_, sC_, i64_w, i32_w]
  rfl
 refine pure_ (i := 18) (N := some 23) (v := ?_) (a' := ?_) #[true, false, false, true, false, false, true, false, false, true, false, false, true, false, false, true, false, false, true, false, false, false, false, false] rfl rfl (any_of HT_.out (by kernel_rfl)) (fun _ _ _ h => h) (Or.inl ⟨by rfl, ?_⟩) ?_ ?_
 rotate_left
 ·intro w'
  go_simp
  with_reducible rfl
 rotate_left
 ·simp only [Act.put, sA_, sB_, sC_, i64_w, i32_w]
  rfl
 refine take_ (i := 1) (N := some 6) (v := ?_) (a' := ?_) #[true, true, false, true, false, false, true, false, false, true, false, false, true, false, false, true, false, false, true, false, false, false, false, false] rfl rfl (take_ofW HT_.out HW_.out (by kernel_rfl)) (fun _ _ _ h => h) (Or.inl ⟨by rfl, ?_⟩) hHeld ?_ ?_
 rotate_left
 ·rintro w' ⟨s0, s1, s2, s3, s4, s5, s6, s7⟩
  go_simp
  with_reducible rfl
 rotate_left
 ·simp only [Act.put, sA_, sB_, sC_, i64_w, i32_w]
  rfl
 refine take_ (i := 4) (N := some 9) (v := ?_) (a' := ?_) #[true, true, false, true, true, false, true, false, false, true, false, false, true, false, false, true, false, false, true, false, false, false, false, false] rfl rfl (take_ofW HT_.out HW_.out (by kernel_rfl)) (fun _ _ _ h => h) (Or.inl ⟨by rfl, ?_⟩) hHeld ?_ ?_
 rotate_left
 ·rintro w' ⟨s0, s1, s2, s3, s4, s5, s6, s7⟩
  go_simp
  with_reducible rfl
 rotate_left
 ·simp only [Act.put, sA_, sB_, sC_, i64_w, i32_w]
  rfl
 refine take_ (i := 7) (N := some 12) (v := ?_) (a' := ?_) #[true, true, false, true, true, false, true, true, false, true, false, false, true, false, false, true, false, false, true, false, false, false, false, false] rfl rfl (take_ofW HT_.out HW_.out (by kernel_rfl)) (fun _ _ _ h => h) (Or.inl ⟨by rfl, ?_⟩) hHeld ?_ ?_
 rotate_left
 ·rintro w' ⟨s0, s1, s2, s3, s4, s5, s6, s7⟩
  go_simp
  with_reducible rfl
 rotate_left
 ·simp only [Act.put, sA_, sB_, sC_, i64_w, i32_w]
  rfl
 refine take_ (i := 10) (N := some 15) (v := ?_) (a' := ?_) #[true, true, false, true, true, false, true, true, false, true, true, false, true, false, false, true, false, false, true, false, false, false, false, false] rfl rfl (take_ofW HT_.out HW_.out (by kernel_rfl)) (fun _ _ _ h => h) (Or.inl ⟨by rfl, ?_⟩) hHeld ?_ ?_
 rotate_left
 ·rintro w' ⟨s0, s1, s2, s3, s4, s5, s6, s7⟩
  go_simp
  with_reducible rfl
 rotate_left
 ·simp only [Act.put, sA_, sB_, sC_, i64_w, i32_w]
  rfl
 refine take_ (i := 13) (N := some 18) (v := ?_) (a' := ?_) #[true, true, false, true, true, false, true, true, false, true, true, false, true, true, false, true, false, false, true, false, false, false, false, false] rfl rfl (take_ofW HT_.out HW_.out (by kernel_rfl)) (fun _ _ _ h => h) (Or.inl ⟨by rfl, ?_⟩) hHeld ?_ ?_
 rotate_left
 ·rintro w' ⟨s0, s1, s2, s3, s4, s5, s6, s7⟩
  go_simp
  with_reducible rfl
 rotate_left
 ·simp only [Act.put, sA_, sB_, sC_, i64_w, i32_w]
  rfl
 refine take_ (i := 16) (N := some 21) (v := ?_) (a' := ?_) #[true, true, false, true, true, false, true, true, false, true, true, false, true, true, false, true, true, false, true, false, false, false, false, false] rfl rfl (take_ofW HT_.out HW_.out (by kernel_rfl)) (fun _ _ _ h => h) (Or.inl ⟨by rfl, ?_⟩) hHeld ?_ ?_
 rotate_left
 ·rintro w' ⟨s0, s1, s2, s3, s4, s5, s6, s7⟩
  go_simp
  with_reducible rfl
 rotate_left
 ·simp only [Act.put, sA_, sB_, sC_, i64_w, i32_w]
  rfl
 refine take_ (i := 19) (N := some 24) (v := ?_) (a' := ?_) #[true, true, false, true, true, false, true, true, false, true, true, false, true, true, false, true, true, false, true, true, false, false, false, false] rfl rfl (take_ofW HT_.out HW_.out (by kernel_rfl)) (fun _ _ _ h => h) (Or.inl ⟨by rfl, ?_⟩) hHeld ?_ ?_
 rotate_left
 ·rintro w' ⟨s0, s1, s2, s3, s4, s5, s6, s7⟩
  go_simp
  with_reducible rfl
 rotate_left
 ·simp only [Act.put, sA_, sB_, sC_, i64_w, i32_w]
  rfl
 refine join_ (σ := Value × Value × Value × Nat) 1 #[true, true, true, true, true, true, true, true, true, true, true, true, true, true, true, true, true, true, true, true, true, true, true, false] (fun s_ => [(7, .string t336), (10, .string t337), (13, .string t338), (16, .string t339), (19, s_.1), (22, s_.2.1), (25, s_.2.2.1), (3, .pointer (some ⟨s_.2.2.2, 0, none⟩)), (26, .agg #[.string t336, s_.1, .string t337, .string t338, s_.2.1, .slice none 0 0, s_.2.2.1, .string t339])]) (fun s_ w' => (w'.cell? ⟨gb334, 0, none⟩ = some (.string a0_0) ∧ w'.cell? ⟨gb334, 1, none⟩ = some (.slice A0_1 l0_1.length c0_1) ∧ w'.cell? ⟨gb334, 2, none⟩ = some (.string a0_2) ∧ w'.cell? ⟨gb334, 3, none⟩ = some (.string a0_3) ∧ w'.cell? ⟨gb334, 4, none⟩ = some (.slice A0_4 l0_4.length c0_4) ∧ w'.cell? ⟨gb334, 5, none⟩ = some (.slice A0_5 l0_5.length c0_5) ∧ w'.cell? ⟨gb334, 6, none⟩ = some (.slice A0_6 l0_6.length c0_6) ∧ w'.cell? ⟨gb334, 7, none⟩ = some (.string a0_7)) ∧ (Kd.R Kd.string 9 w' w.heap.size (fun k_ => some k_ ≠ (s_.2.1 : Value).ownBlock ∧ some k_ ≠ (s_.2.2.1 : Value).ownBlock) s_.1 t340) ∧ (Kd.R Kd.string 9 w' w.heap.size (fun k_ => some k_ ≠ (s_.1 : Value).ownBlock ∧ some k_ ≠ (s_.2.2.1 : Value).ownBlock) s_.2.1 t343) ∧ (Kd.R Kd.string 9 w' w.heap.size (fun k_ => some k_ ≠ (s_.1 : Value).ownBlock ∧ some k_ ≠ (s_.2.1 : Value).ownBlock) s_.2.2.1 t346) ∧ (w'.heap[gb334]? = some (.cells #[.string a0_0, .slice A0_1 l0_1.length c0_1, .string a0_2, .string a0_3, .slice A0_4 l0_4.length c0_4, .slice A0_5 l0_5.length c0_5, .slice A0_6 l0_6.length c0_6, .string a0_7] 28 (0, 0))) ∧ (w'.heap[gb335]? = some (.cells #[.string ⟨#[]⟩, .slice none 0 0, .string ⟨#[]⟩, .string ⟨#[]⟩, .slice none 0 0, .slice none 0 0, .slice none 0 0, .string ⟨#[]⟩] 28 (0, 0))) ∧ (w'.heap[s_.2.2.2]? = some (.cells #[.string ⟨#[]⟩, .slice none 0 0, .string ⟨#[]⟩, .string ⟨#[]⟩, .slice none 0 0, .slice none 0 0, .slice none 0 0, .string ⟨#[]⟩] 28 (0, 0))) ∧ (w.heap.size ≤ s_.2.2.2) ∧ (w.heap.size ≤ s_.2.2.2) ∧ (gb334 ≠ s_.2.2.2) ∧ (s_.2.2.2 ≠ gb334) ∧ (gb335 ≠ s_.2.2.2) ∧ (s_.2.2.2 ≠ gb335) ∧ (Below w.heap.size w w')) ?_ ?_
 rotate_left
 ·intro hJ2_5_8_11_14_17_20_22
  refine join_ (σ := Value × Value × Value) 2 #[true, true, true, true, true, true, true, true, true, true, true, true, true, true, true, true, true, true, true, true, true, true, false, false] (fun s_ => [(7, .string t336), (10, .string t337), (13, .string t338), (16, .string t339), (19, s_.1), (22, s_.2.1), (25, s_.2.2), (26, .agg #[.string t336, s_.1, .string t337, .string t338, s_.2.1, .slice none 0 0, s_.2.2, .string t339])]) (fun s_ w' => (w'.cell? ⟨gb334, 0, none⟩ = some (.string a0_0) ∧ w'.cell? ⟨gb334, 1, none⟩ = some (.slice A0_1 l0_1.length c0_1) ∧ w'.cell? ⟨gb334, 2, none⟩ = some (.string a0_2) ∧ w'.cell? ⟨gb334, 3, none⟩ = some (.string a0_3) ∧ w'.cell? ⟨gb334, 4, none⟩ = some (.slice A0_4 l0_4.length c0_4) ∧ w'.cell? ⟨gb334, 5, none⟩ = some (.slice A0_5 l0_5.length c0_5) ∧ w'.cell? ⟨gb334, 6, none⟩ = some (.slice A0_6 l0_6.length c0_6) ∧ w'.cell? ⟨gb334, 7, none⟩ = some (.string a0_7)) ∧ (Kd.R Kd.string 9 w' w.heap.size (fun k_ => some k_ ≠ (s_.2.1 : Value).ownBlock ∧ some k_ ≠ (s_.2.2 : Value).ownBlock) s_.1 t340) ∧ (Kd.R Kd.string 9 w' w.heap.size (fun k_ => some k_ ≠ (s_.1 : Value).ownBlock ∧ some k_ ≠ (s_.2.2 : Value).ownBlock) s_.2.1 t343) ∧ (Kd.R Kd.string 9 w' w.heap.size (fun k_ => some k_ ≠ (s_.1 : Value).ownBlock ∧ some k_ ≠ (s_.2.1 : Value).ownBlock) s_.2.2 t346) ∧ (w'.heap[gb334]? = some (.cells #[.string a0_0, .slice A0_1 l0_1.length c0_1, .string a0_2, .string a0_3, .slice A0_4 l0_4.length c0_4, .slice A0_5 l0_5.length c0_5, .slice A0_6 l0_6.length c0_6, .string a0_7] 28 (0, 0))) ∧ (w'.heap[gb335]? = some (.cells #[.string ⟨#[]⟩, .slice none 0 0, .string ⟨#[]⟩, .string ⟨#[]⟩, .slice none 0 0, .slice none 0 0, .slice none 0 0, .string ⟨#[]⟩] 28 (0, 0))) ∧ (Below w.heap.size w w')) ?_ ?_
  rotate_left
  ·intro hJ2_5_8_11_14_17_20
   refine join_ (σ := Value × Value × Nat) 3 #[true, true, true, true, true, true, true, true, true, true, true, true, true, true, true, true, true, true, true, true, false, false, true, false] (fun s_ => [(7, .string t336), (10, .string t337), (13, .string t338), (16, .string t339), (19, s_.1), (22, s_.2.1), (3, .pointer (some ⟨s_.2.2, 0, none⟩))]) (fun s_ w' => (w'.cell? ⟨gb334, 0, none⟩ = some (.string a0_0) ∧ w'.cell? ⟨gb334, 1, none⟩ = some (.slice A0_1 l0_1.length c0_1) ∧ w'.cell? ⟨gb334, 2, none⟩ = some (.string a0_2) ∧ w'.cell? ⟨gb334, 3, none⟩ = some (.string a0_3) ∧ w'.cell? ⟨gb334, 4, none⟩ = some (.slice A0_4 l0_4.length c0_4) ∧ w'.cell? ⟨gb334, 5, none⟩ = some (.slice A0_5 l0_5.length c0_5) ∧ w'.cell? ⟨gb334, 6, none⟩ = some (.slice A0_6 l0_6.length c0_6) ∧ w'.cell? ⟨gb334, 7, none⟩ = some (.string a0_7)) ∧ (Kd.R Kd.string 9 w' w.heap.size (fun k_ => some k_ ≠ (s_.2.1 : Value).ownBlock) s_.1 t340) ∧ (Kd.R Kd.string 9 w' w.heap.size (fun k_ => some k_ ≠ (s_.1 : Value).ownBlock) s_.2.1 t343) ∧ (w'.heap[gb334]? = some (.cells #[.string a0_0, .slice A0_1 l0_1.length c0_1, .string a0_2, .string a0_3, .slice A0_4 l0_4.length c0_4, .slice A0_5 l0_5.length c0_5, .slice A0_6 l0_6.length c0_6, .string a0_7] 28 (0, 0))) ∧ (w'.heap[gb335]? = some (.cells #[.string ⟨#[]⟩, .slice none 0 0, .string ⟨#[]⟩, .string ⟨#[]⟩, .slice none 0 0, .slice none 0 0, .slice none 0 0, .string ⟨#[]⟩] 28 (0, 0))) ∧ (w'.heap[s_.2.2]? = some (.cells #[.string ⟨#[]⟩, .slice none 0 0, .string ⟨#[]⟩, .string ⟨#[]⟩, .slice none 0 0, .slice none 0 0, .slice none 0 0, .string ⟨#[]⟩] 28 (0, 0))) ∧ (w.heap.size ≤ s_.2.2) ∧ (w.heap.size ≤ s_.2.2) ∧ (gb334 ≠ s_.2.2) ∧ (s_.2.2 ≠ gb334) ∧ (gb335 ≠ s_.2.2) ∧ (s_.2.2 ≠ gb335) ∧ (Below w.heap.size w w')) ?_ ?_
   rotate_left
   ·intro hJ2_5_8_11_14_17_22
    refine join_ (σ := Value × Value) 4 #[true, true, true, true, true, true, true, true, true, true, true, true, true, true, true, true, true, true, true, true, false, false, false, false] (fun s_ => [(7, .string t336), (10, .string t337), (13, .string t338), (16, .string t339), (19, s_.1), (22, s_.2)]) (fun s_ w' => (w'.cell? ⟨gb334, 0, none⟩ = some (.string a0_0) ∧ w'.cell? ⟨gb334, 1, none⟩ = some (.slice A0_1 l0_1.length c0_1) ∧ w'.cell? ⟨gb334, 2, none⟩ = some (.string a0_2) ∧ w'.cell? ⟨gb334, 3, none⟩ = some (.string a0_3) ∧ w'.cell? ⟨gb334, 4, none⟩ = some (.slice A0_4 l0_4.length c0_4) ∧ w'.cell? ⟨gb334, 5, none⟩ = some (.slice A0_5 l0_5.length c0_5) ∧ w'.cell? ⟨gb334, 6, none⟩ = some (.slice A0_6 l0_6.length c0_6) ∧ w'.cell? ⟨gb334, 7, none⟩ = some (.string a0_7)) ∧ (Kd.R Kd.string 9 w' w.heap.size (fun k_ => some k_ ≠ (s_.2 : Value).ownBlock) s_.1 t340) ∧ (Kd.R Kd.string 9 w' w.heap.size (fun k_ => some k_ ≠ (s_.1 : Value).ownBlock) s_.2 t343) ∧ (w'.heap[gb334]? = some (.cells #[.string a0_0, .slice A0_1 l0_1.length c0_1, .string a0_2, .string a0_3, .slice A0_4 l0_4.length c0_4, .slice A0_5 l0_5.length c0_5, .slice A0_6 l0_6.length c0_6, .string a0_7] 28 (0, 0))) ∧ (w'.heap[gb335]? = some (.cells #[.string ⟨#[]⟩, .slice none 0 0, .string ⟨#[]⟩, .string ⟨#[]⟩, .slice none 0 0, .slice none 0 0, .slice none 0 0, .string ⟨#[]⟩] 28 (0, 0))) ∧ (Below w.heap.size w w')) ?_ ?_
    rotate_left
    ·intro hJ2_5_8_11_14_17
     refine join_ (σ := Value × Nat) 4 #[true, true, true, true, true, true, true, true, true, true, true, true, true, true, true, true, true, false, true, true, false, false, true, false] (fun s_ => [(7, .string t336), (10, .string t337), (13, .string t338), (16, .string t339), (19, s_.1), (3, .pointer (some ⟨s_.2, 0, none⟩))]) (fun s_ w' => (w'.cell? ⟨gb334, 0, none⟩ = some (.string a0_0) ∧ w'.cell? ⟨gb334, 1, none⟩ = some (.slice A0_1 l0_1.length c0_1) ∧ w'.cell? ⟨gb334, 2, none⟩ = some (.string a0_2) ∧ w'.cell? ⟨gb334, 3, none⟩ = some (.string a0_3) ∧ w'.cell? ⟨gb334, 4, none⟩ = some (.slice A0_4 l0_4.length c0_4) ∧ w'.cell? ⟨gb334, 5, none⟩ = some (.slice A0_5 l0_5.length c0_5) ∧ w'.cell? ⟨gb334, 6, none⟩ = some (.slice A0_6 l0_6.length c0_6) ∧ w'.cell? ⟨gb334, 7, none⟩ = some (.string a0_7)) ∧ (Kd.R Kd.string 9 w' w.heap.size (fun _ => True) s_.1 t340) ∧ (w'.heap[gb334]? = some (.cells #[.string a0_0, .slice A0_1 l0_1.length c0_1, .string a0_2, .string a0_3, .slice A0_4 l0_4.length c0_4, .slice A0_5 l0_5.length c0_5, .slice A0_6 l0_6.length c0_6, .string a0_7] 28 (0, 0))) ∧ (w'.heap[gb335]? = some (.cells #[.string ⟨#[]⟩, .slice none 0 0, .string ⟨#[]⟩, .string ⟨#[]⟩, .slice none 0 0, .slice none 0 0, .slice none 0 0, .string ⟨#[]⟩] 28 (0, 0))) ∧ (w'.heap[s_.2]? = some (.cells #[.string ⟨#[]⟩, .slice none 0 0, .string ⟨#[]⟩, .string ⟨#[]⟩, .slice none 0 0, .slice none 0 0, .slice none 0 0, .string ⟨#[]⟩] 28 (0, 0))) ∧ (w.heap.size ≤ s_.2) ∧ (w.heap.size ≤ s_.2) ∧ (gb334 ≠ s_.2) ∧ (s_.2 ≠ gb334) ∧ (gb335 ≠ s_.2) ∧ (s_.2 ≠ gb335) ∧ (Below w.heap.size w w')) ?_ ?_
     rotate_left
     ·intro hJ2_5_8_11_14_22
      refine join_ (σ := Value) 5 #[true, true, true, true, true, true, true, true, true, true, true, true, true, true, true, true, true, false, true, true, false, false, false, false] (fun s_ => [(7, .string t336), (10, .string t337), (13, .string t338), (16, .string t339), (19, s_)]) (fun s_ w' => (w'.cell? ⟨gb334, 0, none⟩ = some (.string a0_0) ∧ w'.cell? ⟨gb334, 1, none⟩ = some (.slice A0_1 l0_1.length c0_1) ∧ w'.cell? ⟨gb334, 2, none⟩ = some (.string a0_2) ∧ w'.cell? ⟨gb334, 3, none⟩ = some (.string a0_3) ∧ w'.cell? ⟨gb334, 4, none⟩ = some (.slice A0_4 l0_4.length c0_4) ∧ w'.cell? ⟨gb334, 5, none⟩ = some (.slice A0_5 l0_5.length c0_5) ∧ w'.cell? ⟨gb334, 6, none⟩ = some (.slice A0_6 l0_6.length c0_6) ∧ w'.cell? ⟨gb334, 7, none⟩ = some (.string a0_7)) ∧ (Kd.R Kd.string 9 w' w.heap.size (fun _ => True) s_ t340) ∧ (w'.heap[gb334]? = some (.cells #[.string a0_0, .slice A0_1 l0_1.length c0_1, .string a0_2, .string a0_3, .slice A0_4 l0_4.length c0_4, .slice A0_5 l0_5.length c0_5, .slice A0_6 l0_6.length c0_6, .string a0_7] 28 (0, 0))) ∧ (w'.heap[gb335]? = some (.cells #[.string ⟨#[]⟩, .slice none 0 0, .string ⟨#[]⟩, .string ⟨#[]⟩, .slice none 0 0, .slice none 0 0, .slice none 0 0, .string ⟨#[]⟩] 28 (0, 0))) ∧ (Below w.heap.size w w')) ?_ ?_
      rotate_left
      ·intro hJ2_5_8_11_14
       refine join_ (σ := Nat) 5 #[true, true, true, true, true, true, true, true, true, true, true, true, true, true, false, true, true, false, true, true, false, false, true, false] (fun s_ => [(7, .string t336), (10, .string t337), (13, .string t338), (16, .string t339), (3, .pointer (some ⟨s_, 0, none⟩))]) (fun s_ w' => (w'.cell? ⟨gb334, 0, none⟩ = some (.string a0_0) ∧ w'.cell? ⟨gb334, 1, none⟩ = some (.slice A0_1 l0_1.length c0_1) ∧ w'.cell? ⟨gb334, 2, none⟩ = some (.string a0_2) ∧ w'.cell? ⟨gb334, 3, none⟩ = some (.string a0_3) ∧ w'.cell? ⟨gb334, 4, none⟩ = some (.slice A0_4 l0_4.length c0_4) ∧ w'.cell? ⟨gb334, 5, none⟩ = some (.slice A0_5 l0_5.length c0_5) ∧ w'.cell? ⟨gb334, 6, none⟩ = some (.slice A0_6 l0_6.length c0_6) ∧ w'.cell? ⟨gb334, 7, none⟩ = some (.string a0_7)) ∧ (w'.heap[gb334]? = some (.cells #[.string a0_0, .slice A0_1 l0_1.length c0_1, .string a0_2, .string a0_3, .slice A0_4 l0_4.length c0_4, .slice A0_5 l0_5.length c0_5, .slice A0_6 l0_6.length c0_6, .string a0_7] 28 (0, 0))) ∧ (w'.heap[gb335]? = some (.cells #[.string ⟨#[]⟩, .slice none 0 0, .string ⟨#[]⟩, .string ⟨#[]⟩, .slice none 0 0, .slice none 0 0, .slice none 0 0, .string ⟨#[]⟩] 28 (0, 0))) ∧ (w'.heap[s_]? = some (.cells #[.string ⟨#[]⟩, .slice none 0 0, .string ⟨#[]⟩, .string ⟨#[]⟩, .slice none 0 0, .slice none 0 0, .slice none 0 0, .string ⟨#[]⟩] 28 (0, 0))) ∧ (w.heap.size ≤ s_) ∧ (w.heap.size ≤ s_) ∧ (gb334 ≠ s_) ∧ (s_ ≠ gb334) ∧ (gb335 ≠ s_) ∧ (s_ ≠ gb335) ∧ (Below w.heap.size w w')) ?_ ?_
       rotate_left
       ·intro hJ2_5_8_11_22
        refine join_ (σ := Unit) 6 #[true, true, true, true, true, true, true, true, true, true, true, true, true, true, false, true, true, false, true, true, false, false, false, false] (fun s_ => [(7, .string t336), (10, .string t337), (13, .string t338), (16, .string t339)]) (fun s_ w' => (w'.cell? ⟨gb334, 0, none⟩ = some (.string a0_0) ∧ w'.cell? ⟨gb334, 1, none⟩ = some (.slice A0_1 l0_1.length c0_1) ∧ w'.cell? ⟨gb334, 2, none⟩ = some (.string a0_2) ∧ w'.cell? ⟨gb334, 3, none⟩ = some (.string a0_3) ∧ w'.cell? ⟨gb334, 4, none⟩ = some (.slice A0_4 l0_4.length c0_4) ∧ w'.cell? ⟨gb334, 5, none⟩ = some (.slice A0_5 l0_5.length c0_5) ∧ w'.cell? ⟨gb334, 6, none⟩ = some (.slice A0_6 l0_6.length c0_6) ∧ w'.cell? ⟨gb334, 7, none⟩ = some (.string a0_7)) ∧ (w'.heap[gb334]? = some (.cells #[.string a0_0, .slice A0_1 l0_1.length c0_1, .string a0_2, .string a0_3, .slice A0_4 l0_4.length c0_4, .slice A0_5 l0_5.length c0_5, .slice A0_6 l0_6.length c0_6, .string a0_7] 28 (0, 0))) ∧ (w'.heap[gb335]? = some (.cells #[.string ⟨#[]⟩, .slice none 0 0, .string ⟨#[]⟩, .string ⟨#[]⟩, .slice none 0 0, .slice none 0 0, .slice none 0 0, .string ⟨#[]⟩] 28 (0, 0))) ∧ (Below w.heap.size w w')) ?_ ?_
        rotate_left
        ·intro hJ2_5_8_11
         refine join_ (σ := Nat) 6 #[true, true, true, true, true, true, true, true, true, true, true, false, true, true, false, true, true, false, true, true, false, false, true, false] (fun s_ => [(7, .string t336), (10, .string t337), (13, .string t338), (3, .pointer (some ⟨s_, 0, none⟩))]) (fun s_ w' => (w'.cell? ⟨gb334, 0, none⟩ = some (.string a0_0) ∧ w'.cell? ⟨gb334, 1, none⟩ = some (.slice A0_1 l0_1.length c0_1) ∧ w'.cell? ⟨gb334, 2, none⟩ = some (.string a0_2) ∧ w'.cell? ⟨gb334, 3, none⟩ = some (.string a0_3) ∧ w'.cell? ⟨gb334, 4, none⟩ = some (.slice A0_4 l0_4.length c0_4) ∧ w'.cell? ⟨gb334, 5, none⟩ = some (.slice A0_5 l0_5.length c0_5) ∧ w'.cell? ⟨gb334, 6, none⟩ = some (.slice A0_6 l0_6.length c0_6) ∧ w'.cell? ⟨gb334, 7, none⟩ = some (.string a0_7)) ∧ (w'.heap[gb334]? = some (.cells #[.string a0_0, .slice A0_1 l0_1.length c0_1, .string a0_2, .string a0_3, .slice A0_4 l0_4.length c0_4, .slice A0_5 l0_5.length c0_5, .slice A0_6 l0_6.length c0_6, .string a0_7] 28 (0, 0))) ∧ (w'.heap[gb335]? = some (.cells #[.string ⟨#[]⟩, .slice none 0 0, .string ⟨#[]⟩, .string ⟨#[]⟩, .slice none 0 0, .slice none 0 0, .slice none 0 0, .string ⟨#[]⟩] 28 (0, 0))) ∧ (w'.heap[s_]? = some (.cells #[.string ⟨#[]⟩, .slice none 0 0, .string ⟨#[]⟩, .string ⟨#[]⟩, .slice none 0 0, .slice none 0 0, .slice none 0 0, .string ⟨#[]⟩] 28 (0, 0))) ∧ (w.heap.size ≤ s_) ∧ (w.heap.size ≤ s_) ∧ (gb334 ≠ s_) ∧ (s_ ≠ gb334) ∧ (gb335 ≠ s_) ∧ (s_ ≠ gb335) ∧ (Below w.heap.size w w')) ?_ ?_
         rotate_left
         ·intro hJ2_5_8_22
          refine join_ (σ := Unit) 7 #[true, true, true, true, true, true, true, true, true, true, true, false, true, true, false, true, true, false, true, true, false, false, false, false] (fun s_ => [(7, .string t336), (10, .string t337), (13, .string t338)]) (fun s_ w' => (w'.cell? ⟨gb334, 0, none⟩ = some (.string a0_0) ∧ w'.cell? ⟨gb334, 1, none⟩ = some (.slice A0_1 l0_1.length c0_1) ∧ w'.cell? ⟨gb334, 2, none⟩ = some (.string a0_2) ∧ w'.cell? ⟨gb334, 3, none⟩ = some (.string a0_3) ∧ w'.cell? ⟨gb334, 4, none⟩ = some (.slice A0_4 l0_4.length c0_4) ∧ w'.cell? ⟨gb334, 5, none⟩ = some (.slice A0_5 l0_5.length c0_5) ∧ w'.cell? ⟨gb334, 6, none⟩ = some (.slice A0_6 l0_6.length c0_6) ∧ w'.cell? ⟨gb334, 7, none⟩ = some (.string a0_7)) ∧ (w'.heap[gb334]? = some (.cells #[.string a0_0, .slice A0_1 l0_1.length c0_1, .string a0_2, .string a0_3, .slice A0_4 l0_4.length c0_4, .slice A0_5 l0_5.length c0_5, .slice A0_6 l0_6.length c0_6, .string a0_7] 28 (0, 0))) ∧ (w'.heap[gb335]? = some (.cells #[.string ⟨#[]⟩, .slice none 0 0, .string ⟨#[]⟩, .string ⟨#[]⟩, .slice none 0 0, .slice none 0 0, .slice none 0 0, .string ⟨#[]⟩] 28 (0, 0))) ∧ (Below w.heap.size w w')) ?_ ?_
          rotate_left
          ·intro hJ2_5_8
           refine join_ (σ := Nat) 7 #[true, true, true, true, true, true, true, true, false, true, true, false, true, true, false, true, true, false, true, true, false, false, true, false] (fun s_ => [(7, .string t336), (10, .string t337), (3, .pointer (some ⟨s_, 0, none⟩))]) (fun s_ w' => (w'.cell? ⟨gb334, 0, none⟩ = some (.string a0_0) ∧ w'.cell? ⟨gb334, 1, none⟩ = some (.slice A0_1 l0_1.length c0_1) ∧ w'.cell? ⟨gb334, 2, none⟩ = some (.string a0_2) ∧ w'.cell? ⟨gb334, 3, none⟩ = some (.string a0_3) ∧ w'.cell? ⟨gb334, 4, none⟩ = some (.slice A0_4 l0_4.length c0_4) ∧ w'.cell? ⟨gb334, 5, none⟩ = some (.slice A0_5 l0_5.length c0_5) ∧ w'.cell? ⟨gb334, 6, none⟩ = some (.slice A0_6 l0_6.length c0_6) ∧ w'.cell? ⟨gb334, 7, none⟩ = some (.string a0_7)) ∧ (w'.heap[gb334]? = some (.cells #[.string a0_0, .slice A0_1 l0_1.length c0_1, .string a0_2, .string a0_3, .slice A0_4 l0_4.length c0_4, .slice A0_5 l0_5.length c0_5, .slice A0_6 l0_6.length c0_6, .string a0_7] 28 (0, 0))) ∧ (w'.heap[gb335]? = some (.cells #[.string ⟨#[]⟩, .slice none 0 0, .string ⟨#[]⟩, .string ⟨#[]⟩, .slice none 0 0, .slice none 0 0, .slice none 0 0, .string ⟨#[]⟩] 28 (0, 0))) ∧ (w'.heap[s_]? = some (.cells #[.string ⟨#[]⟩, .slice none 0 0, .string ⟨#[]⟩, .string ⟨#[]⟩, .slice none 0 0, .slice none 0 0, .slice none 0 0, .string ⟨#[]⟩] 28 (0, 0))) ∧ (w.heap.size ≤ s_) ∧ (w.heap.size ≤ s_) ∧ (gb334 ≠ s_) ∧ (s_ ≠ gb334) ∧ (gb335 ≠ s_) ∧ (s_ ≠ gb335) ∧ (Below w.heap.size w w')) ?_ ?_
           rotate_left
           ·intro hJ2_5_22
            refine join_ (σ := Unit) 8 #[true, true, true, true, true, true, true, true, false, true, true, false, true, true, false, true, true, false, true, true, false, false, false, false] (fun s_ => [(7, .string t336), (10, .string t337)]) (fun s_ w' => (w'.cell? ⟨gb334, 0, none⟩ = some (.string a0_0) ∧ w'.cell? ⟨gb334, 1, none⟩ = some (.slice A0_1 l0_1.length c0_1) ∧ w'.cell? ⟨gb334, 2, none⟩ = some (.string a0_2) ∧ w'.cell? ⟨gb334, 3, none⟩ = some (.string a0_3) ∧ w'.cell? ⟨gb334, 4, none⟩ = some (.slice A0_4 l0_4.length c0_4) ∧ w'.cell? ⟨gb334, 5, none⟩ = some (.slice A0_5 l0_5.length c0_5) ∧ w'.cell? ⟨gb334, 6, none⟩ = some (.slice A0_6 l0_6.length c0_6) ∧ w'.cell? ⟨gb334, 7, none⟩ = some (.string a0_7)) ∧ (w'.heap[gb334]? = some (.cells #[.string a0_0, .slice A0_1 l0_1.length c0_1, .string a0_2, .string a0_3, .slice A0_4 l0_4.length c0_4, .slice A0_5 l0_5.length c0_5, .slice A0_6 l0_6.length c0_6, .string a0_7] 28 (0, 0))) ∧ (w'.heap[gb335]? = some (.cells #[.string ⟨#[]⟩, .slice none 0 0, .string ⟨#[]⟩, .string ⟨#[]⟩, .slice none 0 0, .slice none 0 0, .slice none 0 0, .string ⟨#[]⟩] 28 (0, 0))) ∧ (Below w.heap.size w w')) ?_ ?_
            rotate_left
            ·intro hJ2_5
             refine join_ (σ := Nat) 8 #[true, true, true, true, true, false, true, true, false, true, true, false, true, true, false, true, true, false, true, true, false, false, true, false] (fun s_ => [(7, .string t336), (3, .pointer (some ⟨s_, 0, none⟩))]) (fun s_ w' => (w'.cell? ⟨gb334, 0, none⟩ = some (.string a0_0) ∧ w'.cell? ⟨gb334, 1, none⟩ = some (.slice A0_1 l0_1.length c0_1) ∧ w'.cell? ⟨gb334, 2, none⟩ = some (.string a0_2) ∧ w'.cell? ⟨gb334, 3, none⟩ = some (.string a0_3) ∧ w'.cell? ⟨gb334, 4, none⟩ = some (.slice A0_4 l0_4.length c0_4) ∧ w'.cell? ⟨gb334, 5, none⟩ = some (.slice A0_5 l0_5.length c0_5) ∧ w'.cell? ⟨gb334, 6, none⟩ = some (.slice A0_6 l0_6.length c0_6) ∧ w'.cell? ⟨gb334, 7, none⟩ = some (.string a0_7)) ∧ (w'.heap[gb334]? = some (.cells #[.string a0_0, .slice A0_1 l0_1.length c0_1, .string a0_2, .string a0_3, .slice A0_4 l0_4.length c0_4, .slice A0_5 l0_5.length c0_5, .slice A0_6 l0_6.length c0_6, .string a0_7] 28 (0, 0))) ∧ (w'.heap[gb335]? = some (.cells #[.string ⟨#[]⟩, .slice none 0 0, .string ⟨#[]⟩, .string ⟨#[]⟩, .slice none 0 0, .slice none 0 0, .slice none 0 0, .string ⟨#[]⟩] 28 (0, 0))) ∧ (w'.heap[s_]? = some (.cells #[.string ⟨#[]⟩, .slice none 0 0, .string ⟨#[]⟩, .string ⟨#[]⟩, .slice none 0 0, .slice none 0 0, .slice none 0 0, .string ⟨#[]⟩] 28 (0, 0))) ∧ (w.heap.size ≤ s_) ∧ (w.heap.size ≤ s_) ∧ (gb334 ≠ s_) ∧ (s_ ≠ gb334) ∧ (gb335 ≠ s_) ∧ (s_ ≠ gb335) ∧ (Below w.heap.size w w')) ?_ ?_
             rotate_left
             ·intro hJ2_22
              refine join_ (σ := Unit) 9 #[true, true, true, true, true, false, true, true, false, true, true, false, true, true, false, true, true, false, true, true, false, false, false, false] (fun s_ => [(7, .string t336)]) (fun s_ w' => (w'.cell? ⟨gb334, 0, none⟩ = some (.string a0_0) ∧ w'.cell? ⟨gb334, 1, none⟩ = some (.slice A0_1 l0_1.length c0_1) ∧ w'.cell? ⟨gb334, 2, none⟩ = some (.string a0_2) ∧ w'.cell? ⟨gb334, 3, none⟩ = some (.string a0_3) ∧ w'.cell? ⟨gb334, 4, none⟩ = some (.slice A0_4 l0_4.length c0_4) ∧ w'.cell? ⟨gb334, 5, none⟩ = some (.slice A0_5 l0_5.length c0_5) ∧ w'.cell? ⟨gb334, 6, none⟩ = some (.slice A0_6 l0_6.length c0_6) ∧ w'.cell? ⟨gb334, 7, none⟩ = some (.string a0_7)) ∧ (w'.heap[gb334]? = some (.cells #[.string a0_0, .slice A0_1 l0_1.length c0_1, .string a0_2, .string a0_3, .slice A0_4 l0_4.length c0_4, .slice A0_5 l0_5.length c0_5, .slice A0_6 l0_6.length c0_6, .string a0_7] 28 (0, 0))) ∧ (w'.heap[gb335]? = some (.cells #[.string ⟨#[]⟩, .slice none 0 0, .string ⟨#[]⟩, .string ⟨#[]⟩, .slice none 0 0, .slice none 0 0, .slice none 0 0, .string ⟨#[]⟩] 28 (0, 0))) ∧ (Below w.heap.size w w')) ?_ ?_
              rotate_left
              ·intro hJ2
               refine join_ (σ := Nat) 9 #[true, true, false, true, true, false, true, true, false, true, true, false, true, true, false, true, true, false, true, true, false, false, true, false] (fun s_ => [(3, .pointer (some ⟨s_, 0, none⟩))]) (fun s_ w' => (w'.cell? ⟨gb334, 0, none⟩ = some (.string a0_0) ∧ w'.cell? ⟨gb334, 1, none⟩ = some (.slice A0_1 l0_1.length c0_1) ∧ w'.cell? ⟨gb334, 2, none⟩ = some (.string a0_2) ∧ w'.cell? ⟨gb334, 3, none⟩ = some (.string a0_3) ∧ w'.cell? ⟨gb334, 4, none⟩ = some (.slice A0_4 l0_4.length c0_4) ∧ w'.cell? ⟨gb334, 5, none⟩ = some (.slice A0_5 l0_5.length c0_5) ∧ w'.cell? ⟨gb334, 6, none⟩ = some (.slice A0_6 l0_6.length c0_6) ∧ w'.cell? ⟨gb334, 7, none⟩ = some (.string a0_7)) ∧ (w'.heap[gb334]? = some (.cells #[.string a0_0, .slice A0_1 l0_1.length c0_1, .string a0_2, .string a0_3, .slice A0_4 l0_4.length c0_4, .slice A0_5 l0_5.length c0_5, .slice A0_6 l0_6.length c0_6, .string a0_7] 28 (0, 0))) ∧ (w'.heap[gb335]? = some (.cells #[.string ⟨#[]⟩, .slice none 0 0, .string ⟨#[]⟩, .string ⟨#[]⟩, .slice none 0 0, .slice none 0 0, .slice none 0 0, .string ⟨#[]⟩] 28 (0, 0))) ∧ (w'.heap[s_]? = some (.cells #[.string ⟨#[]⟩, .slice none 0 0, .string ⟨#[]⟩, .string ⟨#[]⟩, .slice none 0 0, .slice none 0 0, .slice none 0 0, .string ⟨#[]⟩] 28 (0, 0))) ∧ (w.heap.size ≤ s_) ∧ (w.heap.size ≤ s_) ∧ (gb334 ≠ s_) ∧ (s_ ≠ gb334) ∧ (gb335 ≠ s_) ∧ (s_ ≠ gb335) ∧ (Below w.heap.size w w')) ?_ ?_
               rotate_left
               ·intro hJ22
                refine two_ (i := 2) (j := 22) (Ni := some 7) (Nj := some 3) #[true, true, true, true, true, false, true, true, false, true, true, false, true, true, false, true, true, false, true, true, false, false, false, false] #[true, true, false, true, true, false, true, true, false, true, true, false, true, true, false, true, true, false, true, true, false, false, true, false] rfl rfl rfl rfl (two_of HT_.out (by kernel_rfl)) (by decide) (by decide) (fun K hK => ?_) (fun K hK => ?_)
                ·skip
                 refine goes_ Try.func14 (by kernel_rfl) rfl #[.string a0_0] (by rfl) rfl rfl (by (try simp only [List.map_toArray, List.map_cons, List.map_nil]); first | done | rfl | (simp only [List.length_drop, List.length_take]; rfl)) ?_
                 with_reducible refine (isoglosslaw06_short.calls a0_0 t336 _ A2.out).mono ?_
                 rintro e w' ⟨rfl, ⟨nd, rfl⟩⟩
                 refine ⟨_, rfl, ?_⟩
                 refine hK.out _ _ ⟨(bC_ BK334.out 0).trans rfl, (bC_ BK334.out 1).trans rfl, (bC_ BK334.out 2).trans rfl, (bC_ BK334.out 3).trans rfl, (bC_ BK334.out 4).trans rfl, (bC_ BK334.out 5).trans rfl, (bC_ BK334.out 6).trans rfl, (bC_ BK334.out 7).trans rfl⟩ (fun hHeld => ?_)
                 clear hK K
                 refine norm_ (a' := ?_) ?_ ?_
                 rotate_left
                 ·show Act.put _ (some 7) _ = _
                  simp only [Act.put, sA_, sB_, sC_, i64_w, i32_w]
                  rfl
                 exact norm_ (by first | (simp only [putAll, Act.put, sA_, sB_, sC_]; done) | (simp only [putAll, Act.put, sA_, sB_, sC_]; rfl)) (hJ2 () _ ⟨hHeld, (by (with_reducible repeat (first | refine bN_ ?_ _ | refine bD_ ?_ | refine bA_ ?_ _)); exact BK334.out), (by (with_reducible repeat (first | refine bN_ ?_ _ | refine bD_ ?_ | refine bA_ ?_ _)); exact BK335.out), (by repeat (first | (with_reducible first | exact HB.out | apply wA_ | apply wN_ | apply wD_ | refine wS_ ?_ GE334.out | refine wS_ ?_ GE335.out) | exact HB.out))⟩)
                ·skip
                 refine box_step ?hg (N := 3) ?hd (cs := #[.string ⟨#[]⟩, .slice none 0 0, .string ⟨#[]⟩, .string ⟨#[]⟩, .slice none 0 0, .slice none 0 0, .slice none 0 0, .string ⟨#[]⟩]) (t := 28) ?hr ?_; (case hd => rfl); (case hg => rfl); (case hr => first | (go_simp; done) | (go_simp; rfl))
                 intro gb349 hg w12 hbox hb
                 have n0_ := M_ (blk_below (g := gb334) (o := .cells #[.string a0_0, .slice A0_1 l0_1.length c0_1, .string a0_2, .string a0_3, .slice A0_4 l0_4.length c0_4, .slice A0_5 l0_5.length c0_5, .slice A0_6 l0_6.length c0_6, .string a0_7] 28 (0, 0)) (by (with_reducible repeat (first | refine bN_ ?_ _ | refine bD_ ?_ | refine bA_ ?_ _)); exact BK334.out) hb)
                 have n1_ := M_ (blk_below (g := gb335) (o := .cells #[.string ⟨#[]⟩, .slice none 0 0, .string ⟨#[]⟩, .string ⟨#[]⟩, .slice none 0 0, .slice none 0 0, .slice none 0 0, .string ⟨#[]⟩] 28 (0, 0)) (by (with_reducible repeat (first | refine bN_ ?_ _ | refine bD_ ?_ | refine bA_ ?_ _)); exact BK335.out) hb)
                 have n2_ := M_ (wT_ (by repeat (first | (with_reducible first | exact HB.out | apply wA_ | apply wN_ | apply wD_ | refine wS_ ?_ GE334.out | refine wS_ ?_ GE335.out) | exact HB.out)) hb)
                 have n3_ := M_ (hbox)
                 have n4_ := M_ ((by rw [hg]; exact (wZ_ (by repeat (first | (with_reducible first | exact HB.out | apply wA_ | apply wN_ | apply wD_ | refine wS_ ?_ GE334.out | refine wS_ ?_ GE335.out) | exact HB.out))) : w.heap.size ≤ gb349))
                 have n5_ := M_ ((by rw [hg]; exact (wZ_ (by repeat (first | (with_reducible first | exact HB.out | apply wA_ | apply wN_ | apply wD_ | refine wS_ ?_ GE334.out | refine wS_ ?_ GE335.out) | exact HB.out))) : w.heap.size ≤ gb349))
                 have n6_ := M_ ((by rw [hg]; exact Nat.ne_of_lt (blk_lt (g := gb334) (o := .cells #[.string a0_0, .slice A0_1 l0_1.length c0_1, .string a0_2, .string a0_3, .slice A0_4 l0_4.length c0_4, .slice A0_5 l0_5.length c0_5, .slice A0_6 l0_6.length c0_6, .string a0_7] 28 (0, 0)) (by (with_reducible repeat (first | refine bN_ ?_ _ | refine bD_ ?_ | refine bA_ ?_ _)); exact BK334.out)) : gb334 ≠ gb349))
                 have n7_ := M_ ((by rw [hg]; exact Nat.ne_of_gt (blk_lt (g := gb334) (o := .cells #[.string a0_0, .slice A0_1 l0_1.length c0_1, .string a0_2, .string a0_3, .slice A0_4 l0_4.length c0_4, .slice A0_5 l0_5.length c0_5, .slice A0_6 l0_6.length c0_6, .string a0_7] 28 (0, 0)) (by (with_reducible repeat (first | refine bN_ ?_ _ | refine bD_ ?_ | refine bA_ ?_ _)); exact BK334.out)) : gb349 ≠ gb334))
                 have n8_ := M_ ((by rw [hg]; exact Nat.ne_of_lt (blk_lt (g := gb335) (o := .cells #[.string ⟨#[]⟩, .slice none 0 0, .string ⟨#[]⟩, .string ⟨#[]⟩, .slice none 0 0, .slice none 0 0, .slice none 0 0, .string ⟨#[]⟩] 28 (0, 0)) (by (with_reducible repeat (first | refine bN_ ?_ _ | refine bD_ ?_ | refine bA_ ?_ _)); exact BK335.out)) : gb335 ≠ gb349))
                 have n9_ := M_ ((by rw [hg]; exact Nat.ne_of_gt (blk_lt (g := gb335) (o := .cells #[.string ⟨#[]⟩, .slice none 0 0, .string ⟨#[]⟩, .string ⟨#[]⟩, .slice none 0 0, .slice none 0 0, .slice none 0 0, .string ⟨#[]⟩] 28 (0, 0)) (by (with_reducible repeat (first | refine bN_ ?_ _ | refine bD_ ?_ | refine bA_ ?_ _)); exact BK335.out)) : gb349 ≠ gb335))
                 clear BK334 BK335 HB
                 have BK334 := n0_; have BK335 := n1_; have HB := n2_; have BK349 := n3_; have GW349 := n4_; have GE349 := n5_; have NB334_349 := n6_; have NB349_334 := n7_; have NB335_349 := n8_; have NB349_335 := n9_
                 clear n0_ n1_ n2_ n3_ n4_ n5_ n6_ n7_ n8_ n9_ hb hbox hg
                 refine hK.out _ _ ⟨(bC_ BK334.out 0).trans rfl, (bC_ BK334.out 1).trans rfl, (bC_ BK334.out 2).trans rfl, (bC_ BK334.out 3).trans rfl, (bC_ BK334.out 4).trans rfl, (bC_ BK334.out 5).trans rfl, (bC_ BK334.out 6).trans rfl, (bC_ BK334.out 7).trans rfl⟩ (fun hHeld => ?_)
                 clear hK K
                 refine norm_ (a' := ?_) ?_ ?_
                 rotate_left
                 ·show Act.put _ (some 3) _ = _
                  simp only [Act.put, sA_, sB_, sC_, i64_w, i32_w]
                  rfl
                 exact norm_ (by first | (simp only [putAll, Act.put, sA_, sB_, sC_]; done) | (simp only [putAll, Act.put, sA_, sB_, sC_]; rfl)) (hJ22 (gb349) _ ⟨hHeld, (by (with_reducible repeat (first | refine bN_ ?_ _ | refine bD_ ?_ | refine bA_ ?_ _)); exact BK334.out), (by (with_reducible repeat (first | refine bN_ ?_ _ | refine bD_ ?_ | refine bA_ ?_ _)); exact BK335.out), (by (with_reducible repeat (first | refine bN_ ?_ _ | refine bD_ ?_ | refine bA_ ?_ _)); exact BK349.out), GW349.out, GE349.out, NB334_349.out, NB349_334.out, NB335_349.out, NB349_335.out, (by repeat (first | (with_reducible first | exact HB.out | apply wA_ | apply wN_ | apply wD_ | refine wS_ ?_ GE334.out | refine wS_ ?_ GE335.out | refine wS_ ?_ GE349.out) | exact HB.out))⟩)
               ·skip
                rintro gb349 w13 ⟨hS_, h0_, h1_, h2_, h3_, h4_, h5_, h6_, h7_, h8_, h9_⟩
                have n0_ : Aside0 (w13.heap[gb334]? = some (.cells #[.string a0_0, .slice A0_1 l0_1.length c0_1, .string a0_2, .string a0_3, .slice A0_4 l0_4.length c0_4, .slice A0_5 l0_5.length c0_5, .slice A0_6 l0_6.length c0_6, .string a0_7] 28 (0, 0))) := ⟨h0_⟩
                have n1_ : Aside0 (w13.heap[gb335]? = some (.cells #[.string ⟨#[]⟩, .slice none 0 0, .string ⟨#[]⟩, .string ⟨#[]⟩, .slice none 0 0, .slice none 0 0, .slice none 0 0, .string ⟨#[]⟩] 28 (0, 0))) := ⟨h1_⟩
                have n2_ : Aside0 (w13.heap[gb349]? = some (.cells #[.string ⟨#[]⟩, .slice none 0 0, .string ⟨#[]⟩, .string ⟨#[]⟩, .slice none 0 0, .slice none 0 0, .slice none 0 0, .string ⟨#[]⟩] 28 (0, 0))) := ⟨h2_⟩
                have n3_ : Aside0 (w.heap.size ≤ gb349) := ⟨h3_⟩
                have n4_ : Aside0 (w.heap.size ≤ gb349) := ⟨h4_⟩
                have n5_ : Aside0 (gb334 ≠ gb349) := ⟨h5_⟩
                have n6_ : Aside0 (gb349 ≠ gb334) := ⟨h6_⟩
                have n7_ : Aside0 (gb335 ≠ gb349) := ⟨h7_⟩
                have n8_ : Aside0 (gb349 ≠ gb335) := ⟨h8_⟩
                have n9_ : Aside0 (Below w.heap.size w w13) := ⟨h9_⟩
                clear BK334 BK335 HB h0_ h1_ h2_ h3_ h4_ h5_ h6_ h7_ h8_ h9_
                have BK334 := n0_; have BK335 := n1_; have BK349 := n2_; have GW349 := n3_; have GE349 := n4_; have NB334_349 := n5_; have NB349_334 := n6_; have NB335_349 := n7_; have NB349_335 := n8_; have HB := n9_
                clear n0_ n1_ n2_ n3_ n4_ n5_ n6_ n7_ n8_ n9_
                have hHeld : w13.cell? ⟨gb334, 0, none⟩ = some (.string a0_0) ∧ w13.cell? ⟨gb334, 1, none⟩ = some (.slice A0_1 l0_1.length c0_1) ∧ w13.cell? ⟨gb334, 2, none⟩ = some (.string a0_2) ∧ w13.cell? ⟨gb334, 3, none⟩ = some (.string a0_3) ∧ w13.cell? ⟨gb334, 4, none⟩ = some (.slice A0_4 l0_4.length c0_4) ∧ w13.cell? ⟨gb334, 5, none⟩ = some (.slice A0_5 l0_5.length c0_5) ∧ w13.cell? ⟨gb334, 6, none⟩ = some (.slice A0_6 l0_6.length c0_6) ∧ w13.cell? ⟨gb334, 7, none⟩ = some (.string a0_7) := hS_
                refine norm_ (a' := ?_) ?_ ?_
                rotate_left
                ·simp only [putAll, Act.put, sA_, sB_, sC_]
                 rfl
                refine one_ (i := 2) (N := some 7) #[true, true, true, true, true, false, true, true, false, true, true, false, true, true, false, true, true, false, true, true, false, false, true, false] rfl rfl (one_of HT_.out (by kernel_rfl)) (by decide) (fun K hK => ?_)
                refine goes_ Try.func14 (by kernel_rfl) rfl #[.string a0_0] (by rfl) rfl rfl (by (try simp only [List.map_toArray, List.map_cons, List.map_nil]); first | done | rfl | (simp only [List.length_drop, List.length_take]; rfl)) ?_
                with_reducible refine (isoglosslaw06_short.calls a0_0 t336 _ A2.out).mono ?_
                rintro e w' ⟨rfl, ⟨nd, rfl⟩⟩
                refine ⟨_, rfl, ?_⟩
                refine hK.out _ _ ⟨(bC_ BK334.out 0).trans rfl, (bC_ BK334.out 1).trans rfl, (bC_ BK334.out 2).trans rfl, (bC_ BK334.out 3).trans rfl, (bC_ BK334.out 4).trans rfl, (bC_ BK334.out 5).trans rfl, (bC_ BK334.out 6).trans rfl, (bC_ BK334.out 7).trans rfl⟩ (fun hHeld => ?_)
                clear hK K
                refine norm_ (a' := ?_) ?_ ?_
                rotate_left
                ·show Act.put _ (some 7) _ = _
                 simp only [Act.put, sA_, sB_, sC_, i64_w, i32_w]
                 rfl
                exact norm_ (by first | (simp only [putAll, Act.put, sA_, sB_, sC_]; done) | (simp only [putAll, Act.put, sA_, sB_, sC_]; rfl)) (hJ2_22 (gb349) _ ⟨hHeld, (by (with_reducible repeat (first | refine bN_ ?_ _ | refine bD_ ?_ | refine bA_ ?_ _)); exact BK334.out), (by (with_reducible repeat (first | refine bN_ ?_ _ | refine bD_ ?_ | refine bA_ ?_ _)); exact BK335.out), (by (with_reducible repeat (first | refine bN_ ?_ _ | refine bD_ ?_ | refine bA_ ?_ _)); exact BK349.out), GW349.out, GE349.out, NB334_349.out, NB349_334.out, NB335_349.out, NB349_335.out, (by repeat (first | (with_reducible first | exact HB.out | apply wA_ | apply wN_ | apply wD_ | refine wS_ ?_ GE334.out | refine wS_ ?_ GE335.out | refine wS_ ?_ GE349.out) | exact HB.out))⟩)
              ·skip
               rintro _ w12 ⟨hS_, h0_, h1_, h2_⟩
               have n0_ : Aside0 (w12.heap[gb334]? = some (.cells #[.string a0_0, .slice A0_1 l0_1.length c0_1, .string a0_2, .string a0_3, .slice A0_4 l0_4.length c0_4, .slice A0_5 l0_5.length c0_5, .slice A0_6 l0_6.length c0_6, .string a0_7] 28 (0, 0))) := ⟨h0_⟩
               have n1_ : Aside0 (w12.heap[gb335]? = some (.cells #[.string ⟨#[]⟩, .slice none 0 0, .string ⟨#[]⟩, .string ⟨#[]⟩, .slice none 0 0, .slice none 0 0, .slice none 0 0, .string ⟨#[]⟩] 28 (0, 0))) := ⟨h1_⟩
               have n2_ : Aside0 (Below w.heap.size w w12) := ⟨h2_⟩
               clear BK334 BK335 HB h0_ h1_ h2_
               have BK334 := n0_; have BK335 := n1_; have HB := n2_
               clear n0_ n1_ n2_
               have hHeld : w12.cell? ⟨gb334, 0, none⟩ = some (.string a0_0) ∧ w12.cell? ⟨gb334, 1, none⟩ = some (.slice A0_1 l0_1.length c0_1) ∧ w12.cell? ⟨gb334, 2, none⟩ = some (.string a0_2) ∧ w12.cell? ⟨gb334, 3, none⟩ = some (.string a0_3) ∧ w12.cell? ⟨gb334, 4, none⟩ = some (.slice A0_4 l0_4.length c0_4) ∧ w12.cell? ⟨gb334, 5, none⟩ = some (.slice A0_5 l0_5.length c0_5) ∧ w12.cell? ⟨gb334, 6, none⟩ = some (.slice A0_6 l0_6.length c0_6) ∧ w12.cell? ⟨gb334, 7, none⟩ = some (.string a0_7) := hS_
               refine norm_ (a' := ?_) ?_ ?_
               rotate_left
               ·simp only [putAll, Act.put, sA_, sB_, sC_]
                rfl
               refine two_ (i := 5) (j := 22) (Ni := some 10) (Nj := some 3) #[true, true, true, true, true, true, true, true, false, true, true, false, true, true, false, true, true, false, true, true, false, false, false, false] #[true, true, true, true, true, false, true, true, false, true, true, false, true, true, false, true, true, false, true, true, false, false, true, false] rfl rfl rfl rfl (two_of HT_.out (by kernel_rfl)) (by decide) (by decide) (fun K hK => ?_) (fun K hK => ?_)
               ·skip
                refine goes_ Try.func14 (by kernel_rfl) rfl #[.string a0_2] (by rfl) rfl rfl (by (try simp only [List.map_toArray, List.map_cons, List.map_nil]); first | done | rfl | (simp only [List.length_drop, List.length_take]; rfl)) ?_
                with_reducible refine (isoglosslaw06_short.calls a0_2 t337 _ A3.out).mono ?_
                rintro e w' ⟨rfl, ⟨nd, rfl⟩⟩
                refine ⟨_, rfl, ?_⟩
                refine hK.out _ _ ⟨(bC_ BK334.out 0).trans rfl, (bC_ BK334.out 1).trans rfl, (bC_ BK334.out 2).trans rfl, (bC_ BK334.out 3).trans rfl, (bC_ BK334.out 4).trans rfl, (bC_ BK334.out 5).trans rfl, (bC_ BK334.out 6).trans rfl, (bC_ BK334.out 7).trans rfl⟩ (fun hHeld => ?_)
                clear hK K
                refine norm_ (a' := ?_) ?_ ?_
                rotate_left
                ·show Act.put _ (some 10) _ = _
                 simp only [Act.put, sA_, sB_, sC_, i64_w, i32_w]
                 rfl
                exact norm_ (by first | (simp only [putAll, Act.put, sA_, sB_, sC_]; done) | (simp only [putAll, Act.put, sA_, sB_, sC_]; rfl)) (hJ2_5 () _ ⟨hHeld, (by (with_reducible repeat (first | refine bN_ ?_ _ | refine bD_ ?_ | refine bA_ ?_ _)); exact BK334.out), (by (with_reducible repeat (first | refine bN_ ?_ _ | refine bD_ ?_ | refine bA_ ?_ _)); exact BK335.out), (by repeat (first | (with_reducible first | exact HB.out | apply wA_ | apply wN_ | apply wD_ | refine wS_ ?_ GE334.out | refine wS_ ?_ GE335.out) | exact HB.out))⟩)
               ·skip
                refine box_step ?hg (N := 3) ?hd (cs := #[.string ⟨#[]⟩, .slice none 0 0, .string ⟨#[]⟩, .string ⟨#[]⟩, .slice none 0 0, .slice none 0 0, .slice none 0 0, .string ⟨#[]⟩]) (t := 28) ?hr ?_; (case hd => rfl); (case hg => rfl); (case hr => first | (go_simp; done) | (go_simp; rfl))
                intro gb349 hg w13 hbox hb
                have n0_ := M_ (blk_below (g := gb334) (o := .cells #[.string a0_0, .slice A0_1 l0_1.length c0_1, .string a0_2, .string a0_3, .slice A0_4 l0_4.length c0_4, .slice A0_5 l0_5.length c0_5, .slice A0_6 l0_6.length c0_6, .string a0_7] 28 (0, 0)) (by (with_reducible repeat (first | refine bN_ ?_ _ | refine bD_ ?_ | refine bA_ ?_ _)); exact BK334.out) hb)
                have n1_ := M_ (blk_below (g := gb335) (o := .cells #[.string ⟨#[]⟩, .slice none 0 0, .string ⟨#[]⟩, .string ⟨#[]⟩, .slice none 0 0, .slice none 0 0, .slice none 0 0, .string ⟨#[]⟩] 28 (0, 0)) (by (with_reducible repeat (first | refine bN_ ?_ _ | refine bD_ ?_ | refine bA_ ?_ _)); exact BK335.out) hb)
                have n2_ := M_ (wT_ (by repeat (first | (with_reducible first | exact HB.out | apply wA_ | apply wN_ | apply wD_ | refine wS_ ?_ GE334.out | refine wS_ ?_ GE335.out) | exact HB.out)) hb)
                have n3_ := M_ (hbox)
                have n4_ := M_ ((by rw [hg]; exact (wZ_ (by repeat (first | (with_reducible first | exact HB.out | apply wA_ | apply wN_ | apply wD_ | refine wS_ ?_ GE334.out | refine wS_ ?_ GE335.out) | exact HB.out))) : w.heap.size ≤ gb349))
                have n5_ := M_ ((by rw [hg]; exact (wZ_ (by repeat (first | (with_reducible first | exact HB.out | apply wA_ | apply wN_ | apply wD_ | refine wS_ ?_ GE334.out | refine wS_ ?_ GE335.out) | exact HB.out))) : w.heap.size ≤ gb349))
                have n6_ := M_ ((by rw [hg]; exact Nat.ne_of_lt (blk_lt (g := gb334) (o := .cells #[.string a0_0, .slice A0_1 l0_1.length c0_1, .string a0_2, .string a0_3, .slice A0_4 l0_4.length c0_4, .slice A0_5 l0_5.length c0_5, .slice A0_6 l0_6.length c0_6, .string a0_7] 28 (0, 0)) (by (with_reducible repeat (first | refine bN_ ?_ _ | refine bD_ ?_ | refine bA_ ?_ _)); exact BK334.out)) : gb334 ≠ gb349))
                have n7_ := M_ ((by rw [hg]; exact Nat.ne_of_gt (blk_lt (g := gb334) (o := .cells #[.string a0_0, .slice A0_1 l0_1.length c0_1, .string a0_2, .string a0_3, .slice A0_4 l0_4.length c0_4, .slice A0_5 l0_5.length c0_5, .slice A0_6 l0_6.length c0_6, .string a0_7] 28 (0, 0)) (by (with_reducible repeat (first | refine bN_ ?_ _ | refine bD_ ?_ | refine bA_ ?_ _)); exact BK334.out)) : gb349 ≠ gb334))
                have n8_ := M_ ((by rw [hg]; exact Nat.ne_of_lt (blk_lt (g := gb335) (o := .cells #[.string ⟨#[]⟩, .slice none 0 0, .string ⟨#[]⟩, .string ⟨#[]⟩, .slice none 0 0, .slice none 0 0, .slice none 0 0, .string ⟨#[]⟩] 28 (0, 0)) (by (with_reducible repeat (first | refine bN_ ?_ _ | refine bD_ ?_ | refine bA_ ?_ _)); exact BK335.out)) : gb335 ≠ gb349))
                have n9_ := M_ ((by rw [hg]; exact Nat.ne_of_gt (blk_lt (g := gb335) (o := .cells #[.string ⟨#[]⟩, .slice none 0 0, .string ⟨#[]⟩, .string ⟨#[]⟩, .slice none 0 0, .slice none 0 0, .slice none 0 0, .string ⟨#[]⟩] 28 (0, 0)) (by (with_reducible repeat (first | refine bN_ ?_ _ | refine bD_ ?_ | refine bA_ ?_ _)); exact BK335.out)) : gb349 ≠ gb335))
                clear BK334 BK335 HB
                have BK334 := n0_; have BK335 := n1_; have HB := n2_; have BK349 := n3_; have GW349 := n4_; have GE349 := n5_; have NB334_349 := n6_; have NB349_334 := n7_; have NB335_349 := n8_; have NB349_335 := n9_
                clear n0_ n1_ n2_ n3_ n4_ n5_ n6_ n7_ n8_ n9_ hb hbox hg
                refine hK.out _ _ ⟨(bC_ BK334.out 0).trans rfl, (bC_ BK334.out 1).trans rfl, (bC_ BK334.out 2).trans rfl, (bC_ BK334.out 3).trans rfl, (bC_ BK334.out 4).trans rfl, (bC_ BK334.out 5).trans rfl, (bC_ BK334.out 6).trans rfl, (bC_ BK334.out 7).trans rfl⟩ (fun hHeld => ?_)
                clear hK K
                refine norm_ (a' := ?_) ?_ ?_
                rotate_left
                ·show Act.put _ (some 3) _ = _
                 simp only [Act.put, sA_, sB_, sC_, i64_w, i32_w]
                 rfl
                exact norm_ (by first | (simp only [putAll, Act.put, sA_, sB_, sC_]; done) | (simp only [putAll, Act.put, sA_, sB_, sC_]; rfl)) (hJ2_22 (gb349) _ ⟨hHeld, (by (with_reducible repeat (first | refine bN_ ?_ _ | refine bD_ ?_ | refine bA_ ?_ _)); exact BK334.out), (by (with_reducible repeat (first | refine bN_ ?_ _ | refine bD_ ?_ | refine bA_ ?_ _)); exact BK335.out), (by (with_reducible repeat (first | refine bN_ ?_ _ | refine bD_ ?_ | refine bA_ ?_ _)); exact BK349.out), GW349.out, GE349.out, NB334_349.out, NB349_334.out, NB335_349.out, NB349_335.out, (by repeat (first | (with_reducible first | exact HB.out | apply wA_ | apply wN_ | apply wD_ | refine wS_ ?_ GE334.out | refine wS_ ?_ GE335.out | refine wS_ ?_ GE349.out) | exact HB.out))⟩)
             ·skip
              rintro gb349 w13 ⟨hS_, h0_, h1_, h2_, h3_, h4_, h5_, h6_, h7_, h8_, h9_⟩
              have n0_ : Aside0 (w13.heap[gb334]? = some (.cells #[.string a0_0, .slice A0_1 l0_1.length c0_1, .string a0_2, .string a0_3, .slice A0_4 l0_4.length c0_4, .slice A0_5 l0_5.length c0_5, .slice A0_6 l0_6.length c0_6, .string a0_7] 28 (0, 0))) := ⟨h0_⟩
              have n1_ : Aside0 (w13.heap[gb335]? = some (.cells #[.string ⟨#[]⟩, .slice none 0 0, .string ⟨#[]⟩, .string ⟨#[]⟩, .slice none 0 0, .slice none 0 0, .slice none 0 0, .string ⟨#[]⟩] 28 (0, 0))) := ⟨h1_⟩
              have n2_ : Aside0 (w13.heap[gb349]? = some (.cells #[.string ⟨#[]⟩, .slice none 0 0, .string ⟨#[]⟩, .string ⟨#[]⟩, .slice none 0 0, .slice none 0 0, .slice none 0 0, .string ⟨#[]⟩] 28 (0, 0))) := ⟨h2_⟩
              have n3_ : Aside0 (w.heap.size ≤ gb349) := ⟨h3_⟩
              have n4_ : Aside0 (w.heap.size ≤ gb349) := ⟨h4_⟩
              have n5_ : Aside0 (gb334 ≠ gb349) := ⟨h5_⟩
              have n6_ : Aside0 (gb349 ≠ gb334) := ⟨h6_⟩
              have n7_ : Aside0 (gb335 ≠ gb349) := ⟨h7_⟩
              have n8_ : Aside0 (gb349 ≠ gb335) := ⟨h8_⟩
              have n9_ : Aside0 (Below w.heap.size w w13) := ⟨h9_⟩
              clear BK334 BK335 HB h0_ h1_ h2_ h3_ h4_ h5_ h6_ h7_ h8_ h9_
              have BK334 := n0_; have BK335 := n1_; have BK349 := n2_; have GW349 := n3_; have GE349 := n4_; have NB334_349 := n5_; have NB349_334 := n6_; have NB335_349 := n7_; have NB349_335 := n8_; have HB := n9_
              clear n0_ n1_ n2_ n3_ n4_ n5_ n6_ n7_ n8_ n9_
              have hHeld : w13.cell? ⟨gb334, 0, none⟩ = some (.string a0_0) ∧ w13.cell? ⟨gb334, 1, none⟩ = some (.slice A0_1 l0_1.length c0_1) ∧ w13.cell? ⟨gb334, 2, none⟩ = some (.string a0_2) ∧ w13.cell? ⟨gb334, 3, none⟩ = some (.string a0_3) ∧ w13.cell? ⟨gb334, 4, none⟩ = some (.slice A0_4 l0_4.length c0_4) ∧ w13.cell? ⟨gb334, 5, none⟩ = some (.slice A0_5 l0_5.length c0_5) ∧ w13.cell? ⟨gb334, 6, none⟩ = some (.slice A0_6 l0_6.length c0_6) ∧ w13.cell? ⟨gb334, 7, none⟩ = some (.string a0_7) := hS_
              refine norm_ (a' := ?_) ?_ ?_
              rotate_left
              ·simp only [putAll, Act.put, sA_, sB_, sC_]
               rfl
              refine one_ (i := 5) (N := some 10) #[true, true, true, true, true, true, true, true, false, true, true, false, true, true, false, true, true, false, true, true, false, false, true, false] rfl rfl (one_of HT_.out (by kernel_rfl)) (by decide) (fun K hK => ?_)
              refine goes_ Try.func14 (by kernel_rfl) rfl #[.string a0_2] (by rfl) rfl rfl (by (try simp only [List.map_toArray, List.map_cons, List.map_nil]); first | done | rfl | (simp only [List.length_drop, List.length_take]; rfl)) ?_
              with_reducible refine (isoglosslaw06_short.calls a0_2 t337 _ A3.out).mono ?_
              rintro e w' ⟨rfl, ⟨nd, rfl⟩⟩
              refine ⟨_, rfl, ?_⟩
              refine hK.out _ _ ⟨(bC_ BK334.out 0).trans rfl, (bC_ BK334.out 1).trans rfl, (bC_ BK334.out 2).trans rfl, (bC_ BK334.out 3).trans rfl, (bC_ BK334.out 4).trans rfl, (bC_ BK334.out 5).trans rfl, (bC_ BK334.out 6).trans rfl, (bC_ BK334.out 7).trans rfl⟩ (fun hHeld => ?_)
              clear hK K
              refine norm_ (a' := ?_) ?_ ?_
              rotate_left
              ·show Act.put _ (some 10) _ = _
               simp only [Act.put, sA_, sB_, sC_, i64_w, i32_w]
               rfl
              exact norm_ (by first | (simp only [putAll, Act.put, sA_, sB_, sC_]; done) | (simp only [putAll, Act.put, sA_, sB_, sC_]; rfl)) (hJ2_5_22 (gb349) _ ⟨hHeld, (by (with_reducible repeat (first | refine bN_ ?_ _ | refine bD_ ?_ | refine bA_ ?_ _)); exact BK334.out), (by (with_reducible repeat (first | refine bN_ ?_ _ | refine bD_ ?_ | refine bA_ ?_ _)); exact BK335.out), (by (with_reducible repeat (first | refine bN_ ?_ _ | refine bD_ ?_ | refine bA_ ?_ _)); exact BK349.out), GW349.out, GE349.out, NB334_349.out, NB349_334.out, NB335_349.out, NB349_335.out, (by repeat (first | (with_reducible first | exact HB.out | apply wA_ | apply wN_ | apply wD_ | refine wS_ ?_ GE334.out | refine wS_ ?_ GE335.out | refine wS_ ?_ GE349.out) | exact HB.out))⟩)
            ·skip
             rintro _ w12 ⟨hS_, h0_, h1_, h2_⟩
             have n0_ : Aside0 (w12.heap[gb334]? = some (.cells #[.string a0_0, .slice A0_1 l0_1.length c0_1, .string a0_2, .string a0_3, .slice A0_4 l0_4.length c0_4, .slice A0_5 l0_5.length c0_5, .slice A0_6 l0_6.length c0_6, .string a0_7] 28 (0, 0))) := ⟨h0_⟩
             have n1_ : Aside0 (w12.heap[gb335]? = some (.cells #[.string ⟨#[]⟩, .slice none 0 0, .string ⟨#[]⟩, .string ⟨#[]⟩, .slice none 0 0, .slice none 0 0, .slice none 0 0, .string ⟨#[]⟩] 28 (0, 0))) := ⟨h1_⟩
             have n2_ : Aside0 (Below w.heap.size w w12) := ⟨h2_⟩
             clear BK334 BK335 HB h0_ h1_ h2_
             have BK334 := n0_; have BK335 := n1_; have HB := n2_
             clear n0_ n1_ n2_
             have hHeld : w12.cell? ⟨gb334, 0, none⟩ = some (.string a0_0) ∧ w12.cell? ⟨gb334, 1, none⟩ = some (.slice A0_1 l0_1.length c0_1) ∧ w12.cell? ⟨gb334, 2, none⟩ = some (.string a0_2) ∧ w12.cell? ⟨gb334, 3, none⟩ = some (.string a0_3) ∧ w12.cell? ⟨gb334, 4, none⟩ = some (.slice A0_4 l0_4.length c0_4) ∧ w12.cell? ⟨gb334, 5, none⟩ = some (.slice A0_5 l0_5.length c0_5) ∧ w12.cell? ⟨gb334, 6, none⟩ = some (.slice A0_6 l0_6.length c0_6) ∧ w12.cell? ⟨gb334, 7, none⟩ = some (.string a0_7) := hS_
             refine norm_ (a' := ?_) ?_ ?_
             rotate_left
             ·simp only [putAll, Act.put, sA_, sB_, sC_]
              rfl
             refine two_ (i := 8) (j := 22) (Ni := some 13) (Nj := some 3) #[true, true, true, true, true, true, true, true, true, true, true, false, true, true, false, true, true, false, true, true, false, false, false, false] #[true, true, true, true, true, true, true, true, false, true, true, false, true, true, false, true, true, false, true, true, false, false, true, false] rfl rfl rfl rfl (two_of HT_.out (by kernel_rfl)) (by decide) (by decide) (fun K hK => ?_) (fun K hK => ?_)
             ·skip
              refine goes_ Try.func14 (by kernel_rfl) rfl #[.string a0_3] (by rfl) rfl rfl (by (try simp only [List.map_toArray, List.map_cons, List.map_nil]); first | done | rfl | (simp only [List.length_drop, List.length_take]; rfl)) ?_
              with_reducible refine (isoglosslaw06_short.calls a0_3 t338 _ A4.out).mono ?_
              rintro e w' ⟨rfl, ⟨nd, rfl⟩⟩
              refine ⟨_, rfl, ?_⟩
              refine hK.out _ _ ⟨(bC_ BK334.out 0).trans rfl, (bC_ BK334.out 1).trans rfl, (bC_ BK334.out 2).trans rfl, (bC_ BK334.out 3).trans rfl, (bC_ BK334.out 4).trans rfl, (bC_ BK334.out 5).trans rfl, (bC_ BK334.out 6).trans rfl, (bC_ BK334.out 7).trans rfl⟩ (fun hHeld => ?_)
              clear hK K
              refine norm_ (a' := ?_) ?_ ?_
              rotate_left
              ·show Act.put _ (some 13) _ = _
               simp only [Act.put, sA_, sB_, sC_, i64_w, i32_w]
               rfl
              exact norm_ (by first | (simp only [putAll, Act.put, sA_, sB_, sC_]; done) | (simp only [putAll, Act.put, sA_, sB_, sC_]; rfl)) (hJ2_5_8 () _ ⟨hHeld, (by (with_reducible repeat (first | refine bN_ ?_ _ | refine bD_ ?_ | refine bA_ ?_ _)); exact BK334.out), (by (with_reducible repeat (first | refine bN_ ?_ _ | refine bD_ ?_ | refine bA_ ?_ _)); exact BK335.out), (by repeat (first | (with_reducible first | exact HB.out | apply wA_ | apply wN_ | apply wD_ | refine wS_ ?_ GE334.out | refine wS_ ?_ GE335.out) | exact HB.out))⟩)
             ·skip
              refine box_step ?hg (N := 3) ?hd (cs := #[.string ⟨#[]⟩, .slice none 0 0, .string ⟨#[]⟩, .string ⟨#[]⟩, .slice none 0 0, .slice none 0 0, .slice none 0 0, .string ⟨#[]⟩]) (t := 28) ?hr ?_; (case hd => rfl); (case hg => rfl); (case hr => first | (go_simp; done) | (go_simp; rfl))
              intro gb349 hg w13 hbox hb
              have n0_ := M_ (blk_below (g := gb334) (o := .cells #[.string a0_0, .slice A0_1 l0_1.length c0_1, .string a0_2, .string a0_3, .slice A0_4 l0_4.length c0_4, .slice A0_5 l0_5.length c0_5, .slice A0_6 l0_6.length c0_6, .string a0_7] 28 (0, 0)) (by (with_reducible repeat (first | refine bN_ ?_ _ | refine bD_ ?_ | refine bA_ ?_ _)); exact BK334.out) hb)
              have n1_ := M_ (blk_below (g := gb335) (o := .cells #[.string ⟨#[]⟩, .slice none 0 0, .string ⟨#[]⟩, .string ⟨#[]⟩, .slice none 0 0, .slice none 0 0, .slice none 0 0, .string ⟨#[]⟩] 28 (0, 0)) (by (with_reducible repeat (first | refine bN_ ?_ _ | refine bD_ ?_ | refine bA_ ?_ _)); exact BK335.out) hb)
              have n2_ := M_ (wT_ (by repeat (first | (with_reducible first | exact HB.out | apply wA_ | apply wN_ | apply wD_ | refine wS_ ?_ GE334.out | refine wS_ ?_ GE335.out) | exact HB.out)) hb)
              have n3_ := M_ (hbox)
              have n4_ := M_ ((by rw [hg]; exact (wZ_ (by repeat (first | (with_reducible first | exact HB.out | apply wA_ | apply wN_ | apply wD_ | refine wS_ ?_ GE334.out | refine wS_ ?_ GE335.out) | exact HB.out))) : w.heap.size ≤ gb349))
              have n5_ := M_ ((by rw [hg]; exact (wZ_ (by repeat (first | (with_reducible first | exact HB.out | apply wA_ | apply wN_ | apply wD_ | refine wS_ ?_ GE334.out | refine wS_ ?_ GE335.out) | exact HB.out))) : w.heap.size ≤ gb349))
              have n6_ := M_ ((by rw [hg]; exact Nat.ne_of_lt (blk_lt (g := gb334) (o := .cells #[.string a0_0, .slice A0_1 l0_1.length c0_1, .string a0_2, .string a0_3, .slice A0_4 l0_4.length c0_4, .slice A0_5 l0_5.length c0_5, .slice A0_6 l0_6.length c0_6, .string a0_7] 28 (0, 0)) (by (with_reducible repeat (first | refine bN_ ?_ _ | refine bD_ ?_ | refine bA_ ?_ _)); exact BK334.out)) : gb334 ≠ gb349))
              have n7_ := M_ ((by rw [hg]; exact Nat.ne_of_gt (blk_lt (g := gb334) (o := .cells #[.string a0_0, .slice A0_1 l0_1.length c0_1, .string a0_2, .string a0_3, .slice A0_4 l0_4.length c0_4, .slice A0_5 l0_5.length c0_5, .slice A0_6 l0_6.length c0_6, .string a0_7] 28 (0, 0)) (by (with_reducible repeat (first | refine bN_ ?_ _ | refine bD_ ?_ | refine bA_ ?_ _)); exact BK334.out)) : gb349 ≠ gb334))
              have n8_ := M_ ((by rw [hg]; exact Nat.ne_of_lt (blk_lt (g := gb335) (o := .cells #[.string ⟨#[]⟩, .slice none 0 0, .string ⟨#[]⟩, .string ⟨#[]⟩, .slice none 0 0, .slice none 0 0, .slice none 0 0, .string ⟨#[]⟩] 28 (0, 0)) (by (with_reducible repeat (first | refine bN_ ?_ _ | refine bD_ ?_ | refine bA_ ?_ _)); exact BK335.out)) : gb335 ≠ gb349))
              have n9_ := M_ ((by rw [hg]; exact Nat.ne_of_gt (blk_lt (g := gb335) (o := .cells #[.string ⟨#[]⟩, .slice none 0 0, .string ⟨#[]⟩, .string ⟨#[]⟩, .slice none 0 0, .slice none 0 0, .slice none 0 0, .string ⟨#[]⟩] 28 (0, 0)) (by (with_reducible repeat (first | refine bN_ ?_ _ | refine bD_ ?_ | refine bA_ ?_ _)); exact BK335.out)) : gb349 ≠ gb335))
              clear BK334 BK335 HB
              have BK334 := n0_; have BK335 := n1_; have HB := n2_; have BK349 := n3_; have GW349 := n4_; have GE349 := n5_; have NB334_349 := n6_; have NB349_334 := n7_; have NB335_349 := n8_; have NB349_335 := n9_
              clear n0_ n1_ n2_ n3_ n4_ n5_ n6_ n7_ n8_ n9_ hb hbox hg
              refine hK.out _ _ ⟨(bC_ BK334.out 0).trans rfl, (bC_ BK334.out 1).trans rfl, (bC_ BK334.out 2).trans rfl, (bC_ BK334.out 3).trans rfl, (bC_ BK334.out 4).trans rfl, (bC_ BK334.out 5).trans rfl, (bC_ BK334.out 6).trans rfl, (bC_ BK334.out 7).trans rfl⟩ (fun hHeld => ?_)
              clear hK K
              refine norm_ (a' := ?_) ?_ ?_
              rotate_left
              ·show Act.put _ (some 3) _ = _
               simp only [Act.put, sA_, sB_, sC_, i64_w, i32_w]
               rfl
              exact norm_ (by first | (simp only [putAll, Act.put, sA_, sB_, sC_]; done) | (simp only [putAll, Act.put, sA_, sB_, sC_]; rfl)) (hJ2_5_22 (gb349) _ ⟨hHeld, (by (with_reducible repeat (first | refine bN_ ?_ _ | refine bD_ ?_ | refine bA_ ?_ _)); exact BK334.out), (by (with_reducible repeat (first | refine bN_ ?_ _ | refine bD_ ?_ | refine bA_ ?_ _)); exact BK335.out), (by (with_reducible repeat (first | refine bN_ ?_ _ | refine bD_ ?_ | refine bA_ ?_ _)); exact BK349.out), GW349.out, GE349.out, NB334_349.out, NB349_334.out, NB335_349.out, NB349_335.out, (by repeat (first | (with_reducible first | exact HB.out | apply wA_ | apply wN_ | apply wD_ | refine wS_ ?_ GE334.out | refine wS_ ?_ GE335.out | refine wS_ ?_ GE349.out) | exact HB.out))⟩)
           ·skip
            rintro gb349 w13 ⟨hS_, h0_, h1_, h2_, h3_, h4_, h5_, h6_, h7_, h8_, h9_⟩
            have n0_ : Aside0 (w13.heap[gb334]? = some (.cells #[.string a0_0, .slice A0_1 l0_1.length c0_1, .string a0_2, .string a0_3, .slice A0_4 l0_4.length c0_4, .slice A0_5 l0_5.length c0_5, .slice A0_6 l0_6.length c0_6, .string a0_7] 28 (0, 0))) := ⟨h0_⟩
            have n1_ : Aside0 (w13.heap[gb335]? = some (.cells #[.string ⟨#[]⟩, .slice none 0 0, .string ⟨#[]⟩, .string ⟨#[]⟩, .slice none 0 0, .slice none 0 0, .slice none 0 0, .string ⟨#[]⟩] 28 (0, 0))) := ⟨h1_⟩
            have n2_ : Aside0 (w13.heap[gb349]? = some (.cells #[.string ⟨#[]⟩, .slice none 0 0, .string ⟨#[]⟩, .string ⟨#[]⟩, .slice none 0 0, .slice none 0 0, .slice none 0 0, .string ⟨#[]⟩] 28 (0, 0))) := ⟨h2_⟩
            have n3_ : Aside0 (w.heap.size ≤ gb349) := ⟨h3_⟩
            have n4_ : Aside0 (w.heap.size ≤ gb349) := ⟨h4_⟩
            have n5_ : Aside0 (gb334 ≠ gb349) := ⟨h5_⟩
            have n6_ : Aside0 (gb349 ≠ gb334) := ⟨h6_⟩
            have n7_ : Aside0 (gb335 ≠ gb349) := ⟨h7_⟩
            have n8_ : Aside0 (gb349 ≠ gb335) := ⟨h8_⟩
            have n9_ : Aside0 (Below w.heap.size w w13) := ⟨h9_⟩
            clear BK334 BK335 HB h0_ h1_ h2_ h3_ h4_ h5_ h6_ h7_ h8_ h9_
            have BK334 := n0_; have BK335 := n1_; have BK349 := n2_; have GW349 := n3_; have GE349 := n4_; have NB334_349 := n5_; have NB349_334 := n6_; have NB335_349 := n7_; have NB349_335 := n8_; have HB := n9_
            clear n0_ n1_ n2_ n3_ n4_ n5_ n6_ n7_ n8_ n9_
            have hHeld : w13.cell? ⟨gb334, 0, none⟩ = some (.string a0_0) ∧ w13.cell? ⟨gb334, 1, none⟩ = some (.slice A0_1 l0_1.length c0_1) ∧ w13.cell? ⟨gb334, 2, none⟩ = some (.string a0_2) ∧ w13.cell? ⟨gb334, 3, none⟩ = some (.string a0_3) ∧ w13.cell? ⟨gb334, 4, none⟩ = some (.slice A0_4 l0_4.length c0_4) ∧ w13.cell? ⟨gb334, 5, none⟩ = some (.slice A0_5 l0_5.length c0_5) ∧ w13.cell? ⟨gb334, 6, none⟩ = some (.slice A0_6 l0_6.length c0_6) ∧ w13.cell? ⟨gb334, 7, none⟩ = some (.string a0_7) := hS_
            refine norm_ (a' := ?_) ?_ ?_
            rotate_left
            ·simp only [putAll, Act.put, sA_, sB_, sC_]
             rfl
            refine one_ (i := 8) (N := some 13) #[true, true, true, true, true, true, true, true, true, true, true, false, true, true, false, true, true, false, true, true, false, false, true, false] rfl rfl (one_of HT_.out (by kernel_rfl)) (by decide) (fun K hK => ?_)
            refine goes_ Try.func14 (by kernel_rfl) rfl #[.string a0_3] (by rfl) rfl rfl (by (try simp only [List.map_toArray, List.map_cons, List.map_nil]); first | done | rfl | (simp only [List.length_drop, List.length_take]; rfl)) ?_
            with_reducible refine (isoglosslaw06_short.calls a0_3 t338 _ A4.out).mono ?_
            rintro e w' ⟨rfl, ⟨nd, rfl⟩⟩
            refine ⟨_, rfl, ?_⟩
            refine hK.out _ _ ⟨(bC_ BK334.out 0).trans rfl, (bC_ BK334.out 1).trans rfl, (bC_ BK334.out 2).trans rfl, (bC_ BK334.out 3).trans rfl, (bC_ BK334.out 4).trans rfl, (bC_ BK334.out 5).trans rfl, (bC_ BK334.out 6).trans rfl, (bC_ BK334.out 7).trans rfl⟩ (fun hHeld => ?_)
            clear hK K
            refine norm_ (a' := ?_) ?_ ?_
            rotate_left
            ·show Act.put _ (some 13) _ = _
             simp only [Act.put, sA_, sB_, sC_, i64_w, i32_w]
             rfl
            exact norm_ (by first | (simp only [putAll, Act.put, sA_, sB_, sC_]; done) | (simp only [putAll, Act.put, sA_, sB_, sC_]; rfl)) (hJ2_5_8_22 (gb349) _ ⟨hHeld, (by (with_reducible repeat (first | refine bN_ ?_ _ | refine bD_ ?_ | refine bA_ ?_ _)); exact BK334.out), (by (with_reducible repeat (first | refine bN_ ?_ _ | refine bD_ ?_ | refine bA_ ?_ _)); exact BK335.out), (by (with_reducible repeat (first | refine bN_ ?_ _ | refine bD_ ?_ | refine bA_ ?_ _)); exact BK349.out), GW349.out, GE349.out, NB334_349.out, NB349_334.out, NB335_349.out, NB349_335.out, (by repeat (first | (with_reducible first | exact HB.out | apply wA_ | apply wN_ | apply wD_ | refine wS_ ?_ GE334.out | refine wS_ ?_ GE335.out | refine wS_ ?_ GE349.out) | exact HB.out))⟩)
          ·skip
           rintro _ w12 ⟨hS_, h0_, h1_, h2_⟩
           have n0_ : Aside0 (w12.heap[gb334]? = some (.cells #[.string a0_0, .slice A0_1 l0_1.length c0_1, .string a0_2, .string a0_3, .slice A0_4 l0_4.length c0_4, .slice A0_5 l0_5.length c0_5, .slice A0_6 l0_6.length c0_6, .string a0_7] 28 (0, 0))) := ⟨h0_⟩
           have n1_ : Aside0 (w12.heap[gb335]? = some (.cells #[.string ⟨#[]⟩, .slice none 0 0, .string ⟨#[]⟩, .string ⟨#[]⟩, .slice none 0 0, .slice none 0 0, .slice none 0 0, .string ⟨#[]⟩] 28 (0, 0))) := ⟨h1_⟩
           have n2_ : Aside0 (Below w.heap.size w w12) := ⟨h2_⟩
           clear BK334 BK335 HB h0_ h1_ h2_
           have BK334 := n0_; have BK335 := n1_; have HB := n2_
           clear n0_ n1_ n2_
           have hHeld : w12.cell? ⟨gb334, 0, none⟩ = some (.string a0_0) ∧ w12.cell? ⟨gb334, 1, none⟩ = some (.slice A0_1 l0_1.length c0_1) ∧ w12.cell? ⟨gb334, 2, none⟩ = some (.string a0_2) ∧ w12.cell? ⟨gb334, 3, none⟩ = some (.string a0_3) ∧ w12.cell? ⟨gb334, 4, none⟩ = some (.slice A0_4 l0_4.length c0_4) ∧ w12.cell? ⟨gb334, 5, none⟩ = some (.slice A0_5 l0_5.length c0_5) ∧ w12.cell? ⟨gb334, 6, none⟩ = some (.slice A0_6 l0_6.length c0_6) ∧ w12.cell? ⟨gb334, 7, none⟩ = some (.string a0_7) := hS_
           refine norm_ (a' := ?_) ?_ ?_
           rotate_left
           ·simp only [putAll, Act.put, sA_, sB_, sC_]
            rfl
           refine two_ (i := 11) (j := 22) (Ni := some 16) (Nj := some 3) #[true, true, true, true, true, true, true, true, true, true, true, true, true, true, false, true, true, false, true, true, false, false, false, false] #[true, true, true, true, true, true, true, true, true, true, true, false, true, true, false, true, true, false, true, true, false, false, true, false] rfl rfl rfl rfl (two_of HT_.out (by kernel_rfl)) (by decide) (by decide) (fun K hK => ?_) (fun K hK => ?_)
           ·skip
            refine goes_ Try.func14 (by kernel_rfl) rfl #[.string a0_7] (by rfl) rfl rfl (by (try simp only [List.map_toArray, List.map_cons, List.map_nil]); first | done | rfl | (simp only [List.length_drop, List.length_take]; rfl)) ?_
            with_reducible refine (isoglosslaw06_short.calls a0_7 t339 _ A5.out).mono ?_
            rintro e w' ⟨rfl, ⟨nd, rfl⟩⟩
            refine ⟨_, rfl, ?_⟩
            refine hK.out _ _ ⟨(bC_ BK334.out 0).trans rfl, (bC_ BK334.out 1).trans rfl, (bC_ BK334.out 2).trans rfl, (bC_ BK334.out 3).trans rfl, (bC_ BK334.out 4).trans rfl, (bC_ BK334.out 5).trans rfl, (bC_ BK334.out 6).trans rfl, (bC_ BK334.out 7).trans rfl⟩ (fun hHeld => ?_)
            clear hK K
            refine norm_ (a' := ?_) ?_ ?_
            rotate_left
            ·show Act.put _ (some 16) _ = _
             simp only [Act.put, sA_, sB_, sC_, i64_w, i32_w]
             rfl
            exact norm_ (by first | (simp only [putAll, Act.put, sA_, sB_, sC_]; done) | (simp only [putAll, Act.put, sA_, sB_, sC_]; rfl)) (hJ2_5_8_11 () _ ⟨hHeld, (by (with_reducible repeat (first | refine bN_ ?_ _ | refine bD_ ?_ | refine bA_ ?_ _)); exact BK334.out), (by (with_reducible repeat (first | refine bN_ ?_ _ | refine bD_ ?_ | refine bA_ ?_ _)); exact BK335.out), (by repeat (first | (with_reducible first | exact HB.out | apply wA_ | apply wN_ | apply wD_ | refine wS_ ?_ GE334.out | refine wS_ ?_ GE335.out) | exact HB.out))⟩)
           ·skip
            refine box_step ?hg (N := 3) ?hd (cs := #[.string ⟨#[]⟩, .slice none 0 0, .string ⟨#[]⟩, .string ⟨#[]⟩, .slice none 0 0, .slice none 0 0, .slice none 0 0, .string ⟨#[]⟩]) (t := 28) ?hr ?_; (case hd => rfl); (case hg => rfl); (case hr => first | (go_simp; done) | (go_simp; rfl))
            intro gb349 hg w13 hbox hb
            have n0_ := M_ (blk_below (g := gb334) (o := .cells #[.string a0_0, .slice A0_1 l0_1.length c0_1, .string a0_2, .string a0_3, .slice A0_4 l0_4.length c0_4, .slice A0_5 l0_5.length c0_5, .slice A0_6 l0_6.length c0_6, .string a0_7] 28 (0, 0)) (by (with_reducible repeat (first | refine bN_ ?_ _ | refine bD_ ?_ | refine bA_ ?_ _)); exact BK334.out) hb)
            have n1_ := M_ (blk_below (g := gb335) (o := .cells #[.string ⟨#[]⟩, .slice none 0 0, .string ⟨#[]⟩, .string ⟨#[]⟩, .slice none 0 0, .slice none 0 0, .slice none 0 0, .string ⟨#[]⟩] 28 (0, 0)) (by (with_reducible repeat (first | refine bN_ ?_ _ | refine bD_ ?_ | refine bA_ ?_ _)); exact BK335.out) hb)
            have n2_ := M_ (wT_ (by repeat (first | (with_reducible first | exact HB.out | apply wA_ | apply wN_ | apply wD_ | refine wS_ ?_ GE334.out | refine wS_ ?_ GE335.out) | exact HB.out)) hb)
            have n3_ := M_ (hbox)
            have n4_ := M_ ((by rw [hg]; exact (wZ_ (by repeat (first | (with_reducible first | exact HB.out | apply wA_ | apply wN_ | apply wD_ | refine wS_ ?_ GE334.out | refine wS_ ?_ GE335.out) | exact HB.out))) : w.heap.size ≤ gb349))
            have n5_ := M_ ((by rw [hg]; exact (wZ_ (by repeat (first | (with_reducible first | exact HB.out | apply wA_ | apply wN_ | apply wD_ | refine wS_ ?_ GE334.out | refine wS_ ?_ GE335.out) | exact HB.out))) : w.heap.size ≤ gb349))
            have n6_ := M_ ((by rw [hg]; exact Nat.ne_of_lt (blk_lt (g := gb334) (o := .cells #[.string a0_0, .slice A0_1 l0_1.length c0_1, .string a0_2, .string a0_3, .slice A0_4 l0_4.length c0_4, .slice A0_5 l0_5.length c0_5, .slice A0_6 l0_6.length c0_6, .string a0_7] 28 (0, 0)) (by (with_reducible repeat (first | refine bN_ ?_ _ | refine bD_ ?_ | refine bA_ ?_ _)); exact BK334.out)) : gb334 ≠ gb349))
            have n7_ := M_ ((by rw [hg]; exact Nat.ne_of_gt (blk_lt (g := gb334) (o := .cells #[.string a0_0, .slice A0_1 l0_1.length c0_1, .string a0_2, .string a0_3, .slice A0_4 l0_4.length c0_4, .slice A0_5 l0_5.length c0_5, .slice A0_6 l0_6.length c0_6, .string a0_7] 28 (0, 0)) (by (with_reducible repeat (first | refine bN_ ?_ _ | refine bD_ ?_ | refine bA_ ?_ _)); exact BK334.out)) : gb349 ≠ gb334))
            have n8_ := M_ ((by rw [hg]; exact Nat.ne_of_lt (blk_lt (g := gb335) (o := .cells #[.string ⟨#[]⟩, .slice none 0 0, .string ⟨#[]⟩, .string ⟨#[]⟩, .slice none 0 0, .slice none 0 0, .slice none 0 0, .string ⟨#[]⟩] 28 (0, 0)) (by (with_reducible repeat (first | refine bN_ ?_ _ | refine bD_ ?_ | refine bA_ ?_ _)); exact BK335.out)) : gb335 ≠ gb349))
            have n9_ := M_ ((by rw [hg]; exact Nat.ne_of_gt (blk_lt (g := gb335) (o := .cells #[.string ⟨#[]⟩, .slice none 0 0, .string ⟨#[]⟩, .string ⟨#[]⟩, .slice none 0 0, .slice none 0 0, .slice none 0 0, .string ⟨#[]⟩] 28 (0, 0)) (by (with_reducible repeat (first | refine bN_ ?_ _ | refine bD_ ?_ | refine bA_ ?_ _)); exact BK335.out)) : gb349 ≠ gb335))
            clear BK334 BK335 HB
            have BK334 := n0_; have BK335 := n1_; have HB := n2_; have BK349 := n3_; have GW349 := n4_; have GE349 := n5_; have NB334_349 := n6_; have NB349_334 := n7_; have NB335_349 := n8_; have NB349_335 := n9_
            clear n0_ n1_ n2_ n3_ n4_ n5_ n6_ n7_ n8_ n9_ hb hbox hg
            refine hK.out _ _ ⟨(bC_ BK334.out 0).trans rfl, (bC_ BK334.out 1).trans rfl, (bC_ BK334.out 2).trans rfl, (bC_ BK334.out 3).trans rfl, (bC_ BK334.out 4).trans rfl, (bC_ BK334.out 5).trans rfl, (bC_ BK334.out 6).trans rfl, (bC_ BK334.out 7).trans rfl⟩ (fun hHeld => ?_)
            clear hK K
            refine norm_ (a' := ?_) ?_ ?_
            rotate_left
            ·show Act.put _ (some 3) _ = _
             simp only [Act.put, sA_, sB_, sC_, i64_w, i32_w]
             rfl
            exact norm_ (by first | (simp only [putAll, Act.put, sA_, sB_, sC_]; done) | (simp only [putAll, Act.put, sA_, sB_, sC_]; rfl)) (hJ2_5_8_22 (gb349) _ ⟨hHeld, (by (with_reducible repeat (first | refine bN_ ?_ _ | refine bD_ ?_ | refine bA_ ?_ _)); exact BK334.out), (by (with_reducible repeat (first | refine bN_ ?_ _ | refine bD_ ?_ | refine bA_ ?_ _)); exact BK335.out), (by (with_reducible repeat (first | refine bN_ ?_ _ | refine bD_ ?_ | refine bA_ ?_ _)); exact BK349.out), GW349.out, GE349.out, NB334_349.out, NB349_334.out, NB335_349.out, NB349_335.out, (by repeat (first | (with_reducible first | exact HB.out | apply wA_ | apply wN_ | apply wD_ | refine wS_ ?_ GE334.out | refine wS_ ?_ GE335.out | refine wS_ ?_ GE349.out) | exact HB.out))⟩)
         ·skip
          rintro gb349 w13 ⟨hS_, h0_, h1_, h2_, h3_, h4_, h5_, h6_, h7_, h8_, h9_⟩
          have n0_ : Aside0 (w13.heap[gb334]? = some (.cells #[.string a0_0, .slice A0_1 l0_1.length c0_1, .string a0_2, .string a0_3, .slice A0_4 l0_4.length c0_4, .slice A0_5 l0_5.length c0_5, .slice A0_6 l0_6.length c0_6, .string a0_7] 28 (0, 0))) := ⟨h0_⟩
          have n1_ : Aside0 (w13.heap[gb335]? = some (.cells #[.string ⟨#[]⟩, .slice none 0 0, .string ⟨#[]⟩, .string ⟨#[]⟩, .slice none 0 0, .slice none 0 0, .slice none 0 0, .string ⟨#[]⟩] 28 (0, 0))) := ⟨h1_⟩
          have n2_ : Aside0 (w13.heap[gb349]? = some (.cells #[.string ⟨#[]⟩, .slice none 0 0, .string ⟨#[]⟩, .string ⟨#[]⟩, .slice none 0 0, .slice none 0 0, .slice none 0 0, .string ⟨#[]⟩] 28 (0, 0))) := ⟨h2_⟩
          have n3_ : Aside0 (w.heap.size ≤ gb349) := ⟨h3_⟩
          have n4_ : Aside0 (w.heap.size ≤ gb349) := ⟨h4_⟩
          have n5_ : Aside0 (gb334 ≠ gb349) := ⟨h5_⟩
          have n6_ : Aside0 (gb349 ≠ gb334) := ⟨h6_⟩
          have n7_ : Aside0 (gb335 ≠ gb349) := ⟨h7_⟩
          have n8_ : Aside0 (gb349 ≠ gb335) := ⟨h8_⟩
          have n9_ : Aside0 (Below w.heap.size w w13) := ⟨h9_⟩
          clear BK334 BK335 HB h0_ h1_ h2_ h3_ h4_ h5_ h6_ h7_ h8_ h9_
          have BK334 := n0_; have BK335 := n1_; have BK349 := n2_; have GW349 := n3_; have GE349 := n4_; have NB334_349 := n5_; have NB349_334 := n6_; have NB335_349 := n7_; have NB349_335 := n8_; have HB := n9_
          clear n0_ n1_ n2_ n3_ n4_ n5_ n6_ n7_ n8_ n9_
          have hHeld : w13.cell? ⟨gb334, 0, none⟩ = some (.string a0_0) ∧ w13.cell? ⟨gb334, 1, none⟩ = some (.slice A0_1 l0_1.length c0_1) ∧ w13.cell? ⟨gb334, 2, none⟩ = some (.string a0_2) ∧ w13.cell? ⟨gb334, 3, none⟩ = some (.string a0_3) ∧ w13.cell? ⟨gb334, 4, none⟩ = some (.slice A0_4 l0_4.length c0_4) ∧ w13.cell? ⟨gb334, 5, none⟩ = some (.slice A0_5 l0_5.length c0_5) ∧ w13.cell? ⟨gb334, 6, none⟩ = some (.slice A0_6 l0_6.length c0_6) ∧ w13.cell? ⟨gb334, 7, none⟩ = some (.string a0_7) := hS_
          refine norm_ (a' := ?_) ?_ ?_
          rotate_left
          ·simp only [putAll, Act.put, sA_, sB_, sC_]
           rfl
          refine one_ (i := 11) (N := some 16) #[true, true, true, true, true, true, true, true, true, true, true, true, true, true, false, true, true, false, true, true, false, false, true, false] rfl rfl (one_of HT_.out (by kernel_rfl)) (by decide) (fun K hK => ?_)
          refine goes_ Try.func14 (by kernel_rfl) rfl #[.string a0_7] (by rfl) rfl rfl (by (try simp only [List.map_toArray, List.map_cons, List.map_nil]); first | done | rfl | (simp only [List.length_drop, List.length_take]; rfl)) ?_
          with_reducible refine (isoglosslaw06_short.calls a0_7 t339 _ A5.out).mono ?_
          rintro e w' ⟨rfl, ⟨nd, rfl⟩⟩
          refine ⟨_, rfl, ?_⟩
          refine hK.out _ _ ⟨(bC_ BK334.out 0).trans rfl, (bC_ BK334.out 1).trans rfl, (bC_ BK334.out 2).trans rfl, (bC_ BK334.out 3).trans rfl, (bC_ BK334.out 4).trans rfl, (bC_ BK334.out 5).trans rfl, (bC_ BK334.out 6).trans rfl, (bC_ BK334.out 7).trans rfl⟩ (fun hHeld => ?_)
          clear hK K
          refine norm_ (a' := ?_) ?_ ?_
          rotate_left
          ·show Act.put _ (some 16) _ = _
           simp only [Act.put, sA_, sB_, sC_, i64_w, i32_w]
           rfl
          exact norm_ (by first | (simp only [putAll, Act.put, sA_, sB_, sC_]; done) | (simp only [putAll, Act.put, sA_, sB_, sC_]; rfl)) (hJ2_5_8_11_22 (gb349) _ ⟨hHeld, (by (with_reducible repeat (first | refine bN_ ?_ _ | refine bD_ ?_ | refine bA_ ?_ _)); exact BK334.out), (by (with_reducible repeat (first | refine bN_ ?_ _ | refine bD_ ?_ | refine bA_ ?_ _)); exact BK335.out), (by (with_reducible repeat (first | refine bN_ ?_ _ | refine bD_ ?_ | refine bA_ ?_ _)); exact BK349.out), GW349.out, GE349.out, NB334_349.out, NB349_334.out, NB335_349.out, NB349_335.out, (by repeat (first | (with_reducible first | exact HB.out | apply wA_ | apply wN_ | apply wD_ | refine wS_ ?_ GE334.out | refine wS_ ?_ GE335.out | refine wS_ ?_ GE349.out) | exact HB.out))⟩)
        ·skip
         rintro _ w12 ⟨hS_, h0_, h1_, h2_⟩
         have n0_ : Aside0 (w12.heap[gb334]? = some (.cells #[.string a0_0, .slice A0_1 l0_1.length c0_1, .string a0_2, .string a0_3, .slice A0_4 l0_4.length c0_4, .slice A0_5 l0_5.length c0_5, .slice A0_6 l0_6.length c0_6, .string a0_7] 28 (0, 0))) := ⟨h0_⟩
         have n1_ : Aside0 (w12.heap[gb335]? = some (.cells #[.string ⟨#[]⟩, .slice none 0 0, .string ⟨#[]⟩, .string ⟨#[]⟩, .slice none 0 0, .slice none 0 0, .slice none 0 0, .string ⟨#[]⟩] 28 (0, 0))) := ⟨h1_⟩
         have n2_ : Aside0 (Below w.heap.size w w12) := ⟨h2_⟩
         clear BK334 BK335 HB h0_ h1_ h2_
         have BK334 := n0_; have BK335 := n1_; have HB := n2_
         clear n0_ n1_ n2_
         have hHeld : w12.cell? ⟨gb334, 0, none⟩ = some (.string a0_0) ∧ w12.cell? ⟨gb334, 1, none⟩ = some (.slice A0_1 l0_1.length c0_1) ∧ w12.cell? ⟨gb334, 2, none⟩ = some (.string a0_2) ∧ w12.cell? ⟨gb334, 3, none⟩ = some (.string a0_3) ∧ w12.cell? ⟨gb334, 4, none⟩ = some (.slice A0_4 l0_4.length c0_4) ∧ w12.cell? ⟨gb334, 5, none⟩ = some (.slice A0_5 l0_5.length c0_5) ∧ w12.cell? ⟨gb334, 6, none⟩ = some (.slice A0_6 l0_6.length c0_6) ∧ w12.cell? ⟨gb334, 7, none⟩ = some (.string a0_7) := hS_
         refine norm_ (a' := ?_) ?_ ?_
         rotate_left
         ·simp only [putAll, Act.put, sA_, sB_, sC_]
          rfl
         refine two_ (i := 14) (j := 22) (Ni := some 19) (Nj := some 3) #[true, true, true, true, true, true, true, true, true, true, true, true, true, true, true, true, true, false, true, true, false, false, false, false] #[true, true, true, true, true, true, true, true, true, true, true, true, true, true, false, true, true, false, true, true, false, false, true, false] rfl rfl rfl rfl (two_of HT_.out (by kernel_rfl)) (by decide) (by decide) (fun K hK => ?_) (fun K hK => ?_)
         ·skip
          refine goes_ Try.func38 (by kernel_rfl) rfl #[.slice A0_1 l0_1.length c0_1] (by rfl) rfl rfl (by (try simp only [List.map_toArray, List.map_cons, List.map_nil]); first | done | rfl | (simp only [List.length_drop, List.length_take]; rfl)) ?_
          with_reducible refine (isoglosslaw06_row.calls k _ _ l0_1 t340 _ ?side1 ?side2 A6.out).mono ?_
          (case side1 => repeat (first | exact (cB_ HR0_1.out HB.out) | (with_reducible refine cA_ ?_ _) | (with_reducible refine cN_ ?_ _) | (with_reducible refine cD_ ?_)))
          (case side2 => exact HC0_1.out)
          rintro e w13 ⟨v341, rfl, ho0, hb⟩
          refine ⟨_, rfl, ?_⟩
          have n0_ := M_ (Kd.R_lower ho0 (wZ_ (by repeat (first | (with_reducible first | exact HB.out | apply wA_ | apply wN_ | apply wD_ | refine wS_ ?_ GE334.out | refine wS_ ?_ GE335.out) | exact HB.out))))
          have n1_ := M_ (blk_below (g := gb334) (o := .cells #[.string a0_0, .slice A0_1 l0_1.length c0_1, .string a0_2, .string a0_3, .slice A0_4 l0_4.length c0_4, .slice A0_5 l0_5.length c0_5, .slice A0_6 l0_6.length c0_6, .string a0_7] 28 (0, 0)) (by (with_reducible repeat (first | refine bN_ ?_ _ | refine bD_ ?_ | refine bA_ ?_ _)); exact BK334.out) hb)
          have n2_ := M_ (blk_below (g := gb335) (o := .cells #[.string ⟨#[]⟩, .slice none 0 0, .string ⟨#[]⟩, .string ⟨#[]⟩, .slice none 0 0, .slice none 0 0, .slice none 0 0, .string ⟨#[]⟩] 28 (0, 0)) (by (with_reducible repeat (first | refine bN_ ?_ _ | refine bD_ ?_ | refine bA_ ?_ _)); exact BK335.out) hb)
          have n3_ := M_ (wT_ (by repeat (first | (with_reducible first | exact HB.out | apply wA_ | apply wN_ | apply wD_ | refine wS_ ?_ GE334.out | refine wS_ ?_ GE335.out) | exact HB.out)) hb)
          clear BK334 BK335 HB
          have HO342 := n0_; have BK334 := n1_; have BK335 := n2_; have HB := n3_
          clear n0_ n1_ n2_ n3_
          (try clear hb); (try clear hb2); (try clear hk); (try clear hi); (try clear ho0)
          refine hK.out _ _ ⟨(bC_ BK334.out 0).trans rfl, (bC_ BK334.out 1).trans rfl, (bC_ BK334.out 2).trans rfl, (bC_ BK334.out 3).trans rfl, (bC_ BK334.out 4).trans rfl, (bC_ BK334.out 5).trans rfl, (bC_ BK334.out 6).trans rfl, (bC_ BK334.out 7).trans rfl⟩ (fun hHeld => ?_)
          clear hK K
          refine norm_ (a' := ?_) ?_ ?_
          rotate_left
          ·show Act.put _ (some 19) _ = _
           simp only [Act.put, sA_, sB_, sC_, i64_w, i32_w]
           rfl
          exact norm_ (by first | (simp only [putAll, Act.put, sA_, sB_, sC_]; done) | (simp only [putAll, Act.put, sA_, sB_, sC_]; rfl)) (hJ2_5_8_11_14 (v341) _ ⟨hHeld, (by (with_reducible repeat (first | apply rA_ | apply rN_ | apply rD_)); exact HO342.out), (by (with_reducible repeat (first | refine bN_ ?_ _ | refine bD_ ?_ | refine bA_ ?_ _)); exact BK334.out), (by (with_reducible repeat (first | refine bN_ ?_ _ | refine bD_ ?_ | refine bA_ ?_ _)); exact BK335.out), (by repeat (first | (with_reducible first | exact HB.out | apply wA_ | apply wN_ | apply wD_ | refine wS_ ?_ GE334.out | refine wS_ ?_ GE335.out) | exact HB.out))⟩)
         ·skip
          refine box_step ?hg (N := 3) ?hd (cs := #[.string ⟨#[]⟩, .slice none 0 0, .string ⟨#[]⟩, .string ⟨#[]⟩, .slice none 0 0, .slice none 0 0, .slice none 0 0, .string ⟨#[]⟩]) (t := 28) ?hr ?_; (case hd => rfl); (case hg => rfl); (case hr => first | (go_simp; done) | (go_simp; rfl))
          intro gb349 hg w13 hbox hb
          have n0_ := M_ (blk_below (g := gb334) (o := .cells #[.string a0_0, .slice A0_1 l0_1.length c0_1, .string a0_2, .string a0_3, .slice A0_4 l0_4.length c0_4, .slice A0_5 l0_5.length c0_5, .slice A0_6 l0_6.length c0_6, .string a0_7] 28 (0, 0)) (by (with_reducible repeat (first | refine bN_ ?_ _ | refine bD_ ?_ | refine bA_ ?_ _)); exact BK334.out) hb)
          have n1_ := M_ (blk_below (g := gb335) (o := .cells #[.string ⟨#[]⟩, .slice none 0 0, .string ⟨#[]⟩, .string ⟨#[]⟩, .slice none 0 0, .slice none 0 0, .slice none 0 0, .string ⟨#[]⟩] 28 (0, 0)) (by (with_reducible repeat (first | refine bN_ ?_ _ | refine bD_ ?_ | refine bA_ ?_ _)); exact BK335.out) hb)
          have n2_ := M_ (wT_ (by repeat (first | (with_reducible first | exact HB.out | apply wA_ | apply wN_ | apply wD_ | refine wS_ ?_ GE334.out | refine wS_ ?_ GE335.out) | exact HB.out)) hb)
          have n3_ := M_ (hbox)
          have n4_ := M_ ((by rw [hg]; exact (wZ_ (by repeat (first | (with_reducible first | exact HB.out | apply wA_ | apply wN_ | apply wD_ | refine wS_ ?_ GE334.out | refine wS_ ?_ GE335.out) | exact HB.out))) : w.heap.size ≤ gb349))
          have n5_ := M_ ((by rw [hg]; exact (wZ_ (by repeat (first | (with_reducible first | exact HB.out | apply wA_ | apply wN_ | apply wD_ | refine wS_ ?_ GE334.out | refine wS_ ?_ GE335.out) | exact HB.out))) : w.heap.size ≤ gb349))
          have n6_ := M_ ((by rw [hg]; exact Nat.ne_of_lt (blk_lt (g := gb334) (o := .cells #[.string a0_0, .slice A0_1 l0_1.length c0_1, .string a0_2, .string a0_3, .slice A0_4 l0_4.length c0_4, .slice A0_5 l0_5.length c0_5, .slice A0_6 l0_6.length c0_6, .string a0_7] 28 (0, 0)) (by (with_reducible repeat (first | refine bN_ ?_ _ | refine bD_ ?_ | refine bA_ ?_ _)); exact BK334.out)) : gb334 ≠ gb349))
          have n7_ := M_ ((by rw [hg]; exact Nat.ne_of_gt (blk_lt (g := gb334) (o := .cells #[.string a0_0, .slice A0_1 l0_1.length c0_1, .string a0_2, .string a0_3, .slice A0_4 l0_4.length c0_4, .slice A0_5 l0_5.length c0_5, .slice A0_6 l0_6.length c0_6, .string a0_7] 28 (0, 0)) (by (with_reducible repeat (first | refine bN_ ?_ _ | refine bD_ ?_ | refine bA_ ?_ _)); exact BK334.out)) : gb349 ≠ gb334))
          have n8_ := M_ ((by rw [hg]; exact Nat.ne_of_lt (blk_lt (g := gb335) (o := .cells #[.string ⟨#[]⟩, .slice none 0 0, .string ⟨#[]⟩, .string ⟨#[]⟩, .slice none 0 0, .slice none 0 0, .slice none 0 0, .string ⟨#[]⟩] 28 (0, 0)) (by (with_reducible repeat (first | refine bN_ ?_ _ | refine bD_ ?_ | refine bA_ ?_ _)); exact BK335.out)) : gb335 ≠ gb349))
          have n9_ := M_ ((by rw [hg]; exact Nat.ne_of_gt (blk_lt (g := gb335) (o := .cells #[.string ⟨#[]⟩, .slice none 0 0, .string ⟨#[]⟩, .string ⟨#[]⟩, .slice none 0 0, .slice none 0 0, .slice none 0 0, .string ⟨#[]⟩] 28 (0, 0)) (by (with_reducible repeat (first | refine bN_ ?_ _ | refine bD_ ?_ | refine bA_ ?_ _)); exact BK335.out)) : gb349 ≠ gb335))
          clear BK334 BK335 HB
          have BK334 := n0_; have BK335 := n1_; have HB := n2_; have BK349 := n3_; have GW349 := n4_; have GE349 := n5_; have NB334_349 := n6_; have NB349_334 := n7_; have NB335_349 := n8_; have NB349_335 := n9_
          clear n0_ n1_ n2_ n3_ n4_ n5_ n6_ n7_ n8_ n9_ hb hbox hg
          refine hK.out _ _ ⟨(bC_ BK334.out 0).trans rfl, (bC_ BK334.out 1).trans rfl, (bC_ BK334.out 2).trans rfl, (bC_ BK334.out 3).trans rfl, (bC_ BK334.out 4).trans rfl, (bC_ BK334.out 5).trans rfl, (bC_ BK334.out 6).trans rfl, (bC_ BK334.out 7).trans rfl⟩ (fun hHeld => ?_)
          clear hK K
          refine norm_ (a' := ?_) ?_ ?_
          rotate_left
          ·show Act.put _ (some 3) _ = _
           simp only [Act.put, sA_, sB_, sC_, i64_w, i32_w]
           rfl
          exact norm_ (by first | (simp only [putAll, Act.put, sA_, sB_, sC_]; done) | (simp only [putAll, Act.put, sA_, sB_, sC_]; rfl)) (hJ2_5_8_11_22 (gb349) _ ⟨hHeld, (by (with_reducible repeat (first | refine bN_ ?_ _ | refine bD_ ?_ | refine bA_ ?_ _)); exact BK334.out), (by (with_reducible repeat (first | refine bN_ ?_ _ | refine bD_ ?_ | refine bA_ ?_ _)); exact BK335.out), (by (with_reducible repeat (first | refine bN_ ?_ _ | refine bD_ ?_ | refine bA_ ?_ _)); exact BK349.out), GW349.out, GE349.out, NB334_349.out, NB349_334.out, NB335_349.out, NB349_335.out, (by repeat (first | (with_reducible first | exact HB.out | apply wA_ | apply wN_ | apply wD_ | refine wS_ ?_ GE334.out | refine wS_ ?_ GE335.out | refine wS_ ?_ GE349.out) | exact HB.out))⟩)
       ·skip
        rintro gb349 w13 ⟨hS_, h0_, h1_, h2_, h3_, h4_, h5_, h6_, h7_, h8_, h9_⟩
        have n0_ : Aside0 (w13.heap[gb334]? = some (.cells #[.string a0_0, .slice A0_1 l0_1.length c0_1, .string a0_2, .string a0_3, .slice A0_4 l0_4.length c0_4, .slice A0_5 l0_5.length c0_5, .slice A0_6 l0_6.length c0_6, .string a0_7] 28 (0, 0))) := ⟨h0_⟩
        have n1_ : Aside0 (w13.heap[gb335]? = some (.cells #[.string ⟨#[]⟩, .slice none 0 0, .string ⟨#[]⟩, .string ⟨#[]⟩, .slice none 0 0, .slice none 0 0, .slice none 0 0, .string ⟨#[]⟩] 28 (0, 0))) := ⟨h1_⟩
        have n2_ : Aside0 (w13.heap[gb349]? = some (.cells #[.string ⟨#[]⟩, .slice none 0 0, .string ⟨#[]⟩, .string ⟨#[]⟩, .slice none 0 0, .slice none 0 0, .slice none 0 0, .string ⟨#[]⟩] 28 (0, 0))) := ⟨h2_⟩
        have n3_ : Aside0 (w.heap.size ≤ gb349) := ⟨h3_⟩
        have n4_ : Aside0 (w.heap.size ≤ gb349) := ⟨h4_⟩
        have n5_ : Aside0 (gb334 ≠ gb349) := ⟨h5_⟩
        have n6_ : Aside0 (gb349 ≠ gb334) := ⟨h6_⟩
        have n7_ : Aside0 (gb335 ≠ gb349) := ⟨h7_⟩
        have n8_ : Aside0 (gb349 ≠ gb335) := ⟨h8_⟩
        have n9_ : Aside0 (Below w.heap.size w w13) := ⟨h9_⟩
        clear BK334 BK335 HB h0_ h1_ h2_ h3_ h4_ h5_ h6_ h7_ h8_ h9_
        have BK334 := n0_; have BK335 := n1_; have BK349 := n2_; have GW349 := n3_; have GE349 := n4_; have NB334_349 := n5_; have NB349_334 := n6_; have NB335_349 := n7_; have NB349_335 := n8_; have HB := n9_
        clear n0_ n1_ n2_ n3_ n4_ n5_ n6_ n7_ n8_ n9_
        have hHeld : w13.cell? ⟨gb334, 0, none⟩ = some (.string a0_0) ∧ w13.cell? ⟨gb334, 1, none⟩ = some (.slice A0_1 l0_1.length c0_1) ∧ w13.cell? ⟨gb334, 2, none⟩ = some (.string a0_2) ∧ w13.cell? ⟨gb334, 3, none⟩ = some (.string a0_3) ∧ w13.cell? ⟨gb334, 4, none⟩ = some (.slice A0_4 l0_4.length c0_4) ∧ w13.cell? ⟨gb334, 5, none⟩ = some (.slice A0_5 l0_5.length c0_5) ∧ w13.cell? ⟨gb334, 6, none⟩ = some (.slice A0_6 l0_6.length c0_6) ∧ w13.cell? ⟨gb334, 7, none⟩ = some (.string a0_7) := hS_
        refine norm_ (a' := ?_) ?_ ?_
        rotate_left
        ·simp only [putAll, Act.put, sA_, sB_, sC_]
         rfl
        refine one_ (i := 14) (N := some 19) #[true, true, true, true, true, true, true, true, true, true, true, true, true, true, true, true, true, false, true, true, false, false, true, false] rfl rfl (one_of HT_.out (by kernel_rfl)) (by decide) (fun K hK => ?_)
        refine goes_ Try.func38 (by kernel_rfl) rfl #[.slice A0_1 l0_1.length c0_1] (by rfl) rfl rfl (by (try simp only [List.map_toArray, List.map_cons, List.map_nil]); first | done | rfl | (simp only [List.length_drop, List.length_take]; rfl)) ?_
        with_reducible refine (isoglosslaw06_row.calls k _ _ l0_1 t340 _ ?side1 ?side2 A6.out).mono ?_
        (case side1 => repeat (first | exact (cB_ HR0_1.out HB.out) | (with_reducible refine cA_ ?_ _) | (with_reducible refine cN_ ?_ _) | (with_reducible refine cD_ ?_)))
        (case side2 => exact HC0_1.out)
        rintro e w14 ⟨v341, rfl, ho0, hb⟩
        refine ⟨_, rfl, ?_⟩
        have n0_ := M_ (Kd.R_lower ho0 (wZ_ (by repeat (first | (with_reducible first | exact HB.out | apply wA_ | apply wN_ | apply wD_ | refine wS_ ?_ GE334.out | refine wS_ ?_ GE335.out | refine wS_ ?_ GE349.out) | exact HB.out))))
        have n1_ := M_ (blk_below (g := gb334) (o := .cells #[.string a0_0, .slice A0_1 l0_1.length c0_1, .string a0_2, .string a0_3, .slice A0_4 l0_4.length c0_4, .slice A0_5 l0_5.length c0_5, .slice A0_6 l0_6.length c0_6, .string a0_7] 28 (0, 0)) (by (with_reducible repeat (first | refine bN_ ?_ _ | refine bD_ ?_ | refine bA_ ?_ _)); exact BK334.out) hb)
        have n2_ := M_ (blk_below (g := gb335) (o := .cells #[.string ⟨#[]⟩, .slice none 0 0, .string ⟨#[]⟩, .string ⟨#[]⟩, .slice none 0 0, .slice none 0 0, .slice none 0 0, .string ⟨#[]⟩] 28 (0, 0)) (by (with_reducible repeat (first | refine bN_ ?_ _ | refine bD_ ?_ | refine bA_ ?_ _)); exact BK335.out) hb)
        have n3_ := M_ (blk_below (g := gb349) (o := .cells #[.string ⟨#[]⟩, .slice none 0 0, .string ⟨#[]⟩, .string ⟨#[]⟩, .slice none 0 0, .slice none 0 0, .slice none 0 0, .string ⟨#[]⟩] 28 (0, 0)) (by (with_reducible repeat (first | refine bN_ ?_ _ | refine bD_ ?_ | refine bA_ ?_ _)); exact BK349.out) hb)
        have n4_ := M_ (wT_ (by repeat (first | (with_reducible first | exact HB.out | apply wA_ | apply wN_ | apply wD_ | refine wS_ ?_ GE334.out | refine wS_ ?_ GE335.out | refine wS_ ?_ GE349.out) | exact HB.out)) hb)
        clear BK334 BK335 BK349 HB
        have HO342 := n0_; have BK334 := n1_; have BK335 := n2_; have BK349 := n3_; have HB := n4_
        clear n0_ n1_ n2_ n3_ n4_
        (try clear hb); (try clear hb2); (try clear hk); (try clear hi); (try clear ho0)
        refine hK.out _ _ ⟨(bC_ BK334.out 0).trans rfl, (bC_ BK334.out 1).trans rfl, (bC_ BK334.out 2).trans rfl, (bC_ BK334.out 3).trans rfl, (bC_ BK334.out 4).trans rfl, (bC_ BK334.out 5).trans rfl, (bC_ BK334.out 6).trans rfl, (bC_ BK334.out 7).trans rfl⟩ (fun hHeld => ?_)
        clear hK K
        refine norm_ (a' := ?_) ?_ ?_
        rotate_left
        ·show Act.put _ (some 19) _ = _
         simp only [Act.put, sA_, sB_, sC_, i64_w, i32_w]
         rfl
        exact norm_ (by first | (simp only [putAll, Act.put, sA_, sB_, sC_]; done) | (simp only [putAll, Act.put, sA_, sB_, sC_]; rfl)) (hJ2_5_8_11_14_22 (v341, gb349) _ ⟨hHeld, (by (with_reducible repeat (first | apply rA_ | apply rN_ | apply rD_)); exact HO342.out), (by (with_reducible repeat (first | refine bN_ ?_ _ | refine bD_ ?_ | refine bA_ ?_ _)); exact BK334.out), (by (with_reducible repeat (first | refine bN_ ?_ _ | refine bD_ ?_ | refine bA_ ?_ _)); exact BK335.out), (by (with_reducible repeat (first | refine bN_ ?_ _ | refine bD_ ?_ | refine bA_ ?_ _)); exact BK349.out), GW349.out, GE349.out, NB334_349.out, NB349_334.out, NB335_349.out, NB349_335.out, (by repeat (first | (with_reducible first | exact HB.out | apply wA_ | apply wN_ | apply wD_ | refine wS_ ?_ GE334.out | refine wS_ ?_ GE335.out | refine wS_ ?_ GE349.out) | exact HB.out))⟩)
      ·skip
       rintro v341 w13 ⟨hS_, h0_, h1_, h2_, h3_⟩
       have n0_ : Aside0 (Kd.R Kd.string 9 w13 w.heap.size (fun _ => True) v341 t340) := ⟨h0_⟩
       have n1_ : Aside0 (w13.heap[gb334]? = some (.cells #[.string a0_0, .slice A0_1 l0_1.length c0_1, .string a0_2, .string a0_3, .slice A0_4 l0_4.length c0_4, .slice A0_5 l0_5.length c0_5, .slice A0_6 l0_6.length c0_6, .string a0_7] 28 (0, 0))) := ⟨h1_⟩
       have n2_ : Aside0 (w13.heap[gb335]? = some (.cells #[.string ⟨#[]⟩, .slice none 0 0, .string ⟨#[]⟩, .string ⟨#[]⟩, .slice none 0 0, .slice none 0 0, .slice none 0 0, .string ⟨#[]⟩] 28 (0, 0))) := ⟨h2_⟩
       have n3_ : Aside0 (Below w.heap.size w w13) := ⟨h3_⟩
       clear BK334 BK335 HB h0_ h1_ h2_ h3_
       have HO342 := n0_; have BK334 := n1_; have BK335 := n2_; have HB := n3_
       clear n0_ n1_ n2_ n3_
       have hHeld : w13.cell? ⟨gb334, 0, none⟩ = some (.string a0_0) ∧ w13.cell? ⟨gb334, 1, none⟩ = some (.slice A0_1 l0_1.length c0_1) ∧ w13.cell? ⟨gb334, 2, none⟩ = some (.string a0_2) ∧ w13.cell? ⟨gb334, 3, none⟩ = some (.string a0_3) ∧ w13.cell? ⟨gb334, 4, none⟩ = some (.slice A0_4 l0_4.length c0_4) ∧ w13.cell? ⟨gb334, 5, none⟩ = some (.slice A0_5 l0_5.length c0_5) ∧ w13.cell? ⟨gb334, 6, none⟩ = some (.slice A0_6 l0_6.length c0_6) ∧ w13.cell? ⟨gb334, 7, none⟩ = some (.string a0_7) := hS_
       refine norm_ (a' := ?_) ?_ ?_
       rotate_left
       ·simp only [putAll, Act.put, sA_, sB_, sC_]
        rfl
       refine two_ (i := 17) (j := 22) (Ni := some 22) (Nj := some 3) #[true, true, true, true, true, true, true, true, true, true, true, true, true, true, true, true, true, true, true, true, false, false, false, false] #[true, true, true, true, true, true, true, true, true, true, true, true, true, true, true, true, true, false, true, true, false, false, true, false] rfl rfl rfl rfl (two_of HT_.out (by kernel_rfl)) (by decide) (by decide) (fun K hK => ?_) (fun K hK => ?_)
       ·skip
        refine goes_ Try.func38 (by kernel_rfl) rfl #[.slice A0_4 l0_4.length c0_4] (by rfl) rfl rfl (by (try simp only [List.map_toArray, List.map_cons, List.map_nil]); first | done | rfl | (simp only [List.length_drop, List.length_take]; rfl)) ?_
        with_reducible refine (isoglosslaw06_row.calls k _ _ l0_4 t343 _ ?side1 ?side2 A7.out).mono ?_
        (case side1 => repeat (first | exact (cB_ HR0_4.out HB.out) | (with_reducible refine cA_ ?_ _) | (with_reducible refine cN_ ?_ _) | (with_reducible refine cD_ ?_)))
        (case side2 => exact HC0_4.out)
        rintro e w14 ⟨v344, rfl, ho0, hb⟩
        refine ⟨_, rfl, ?_⟩
        have n0_ := M_ (rL_ (by (with_reducible repeat (first | apply rA_ | apply rN_ | apply rD_)); exact HO342.out) (Kd.R_base ho0) hb)
        have n1_ := M_ (Kd.R_lower (Kd.R_new' ho0 (rT_ (by (with_reducible repeat (first | apply rA_ | apply rN_ | apply rD_)); exact HO342.out))) (wZ_ (by repeat (first | (with_reducible first | exact HB.out | apply wA_ | apply wN_ | apply wD_ | refine wS_ ?_ GE334.out | refine wS_ ?_ GE335.out) | exact HB.out))))
        have n2_ := M_ (blk_below (g := gb334) (o := .cells #[.string a0_0, .slice A0_1 l0_1.length c0_1, .string a0_2, .string a0_3, .slice A0_4 l0_4.length c0_4, .slice A0_5 l0_5.length c0_5, .slice A0_6 l0_6.length c0_6, .string a0_7] 28 (0, 0)) (by (with_reducible repeat (first | refine bN_ ?_ _ | refine bD_ ?_ | refine bA_ ?_ _)); exact BK334.out) hb)
        have n3_ := M_ (blk_below (g := gb335) (o := .cells #[.string ⟨#[]⟩, .slice none 0 0, .string ⟨#[]⟩, .string ⟨#[]⟩, .slice none 0 0, .slice none 0 0, .slice none 0 0, .string ⟨#[]⟩] 28 (0, 0)) (by (with_reducible repeat (first | refine bN_ ?_ _ | refine bD_ ?_ | refine bA_ ?_ _)); exact BK335.out) hb)
        have n4_ := M_ (wT_ (by repeat (first | (with_reducible first | exact HB.out | apply wA_ | apply wN_ | apply wD_ | refine wS_ ?_ GE334.out | refine wS_ ?_ GE335.out) | exact HB.out)) hb)
        clear HO342 BK334 BK335 HB
        have HO342 := n0_; have HO345 := n1_; have BK334 := n2_; have BK335 := n3_; have HB := n4_
        clear n0_ n1_ n2_ n3_ n4_
        (try clear hb); (try clear hb2); (try clear hk); (try clear hi); (try clear ho0)
        refine hK.out _ _ ⟨(bC_ BK334.out 0).trans rfl, (bC_ BK334.out 1).trans rfl, (bC_ BK334.out 2).trans rfl, (bC_ BK334.out 3).trans rfl, (bC_ BK334.out 4).trans rfl, (bC_ BK334.out 5).trans rfl, (bC_ BK334.out 6).trans rfl, (bC_ BK334.out 7).trans rfl⟩ (fun hHeld => ?_)
        clear hK K
        refine norm_ (a' := ?_) ?_ ?_
        rotate_left
        ·show Act.put _ (some 22) _ = _
         simp only [Act.put, sA_, sB_, sC_, i64_w, i32_w]
         rfl
        exact norm_ (by first | (simp only [putAll, Act.put, sA_, sB_, sC_]; done) | (simp only [putAll, Act.put, sA_, sB_, sC_]; rfl)) (hJ2_5_8_11_14_17 (v341, v344) _ ⟨hHeld, (by (with_reducible repeat (first | apply rA_ | apply rN_ | apply rD_)); exact rM_ HO342.out (fun _ hk => hk.2)), (by (with_reducible repeat (first | apply rA_ | apply rN_ | apply rD_)); exact rM_ HO345.out (fun _ hk => hk.2)), (by (with_reducible repeat (first | refine bN_ ?_ _ | refine bD_ ?_ | refine bA_ ?_ _)); exact BK334.out), (by (with_reducible repeat (first | refine bN_ ?_ _ | refine bD_ ?_ | refine bA_ ?_ _)); exact BK335.out), (by repeat (first | (with_reducible first | exact HB.out | apply wA_ | apply wN_ | apply wD_ | refine wS_ ?_ GE334.out | refine wS_ ?_ GE335.out) | exact HB.out))⟩)
       ·skip
        refine box_step ?hg (N := 3) ?hd (cs := #[.string ⟨#[]⟩, .slice none 0 0, .string ⟨#[]⟩, .string ⟨#[]⟩, .slice none 0 0, .slice none 0 0, .slice none 0 0, .string ⟨#[]⟩]) (t := 28) ?hr ?_; (case hd => rfl); (case hg => rfl); (case hr => first | (go_simp; done) | (go_simp; rfl))
        intro gb349 hg w14 hbox hb
        have n0_ := M_ (Kd.R_below (by (with_reducible repeat (first | apply rA_ | apply rN_ | apply rD_)); exact HO342.out) hb)
        have n1_ := M_ (blk_below (g := gb334) (o := .cells #[.string a0_0, .slice A0_1 l0_1.length c0_1, .string a0_2, .string a0_3, .slice A0_4 l0_4.length c0_4, .slice A0_5 l0_5.length c0_5, .slice A0_6 l0_6.length c0_6, .string a0_7] 28 (0, 0)) (by (with_reducible repeat (first | refine bN_ ?_ _ | refine bD_ ?_ | refine bA_ ?_ _)); exact BK334.out) hb)
        have n2_ := M_ (blk_below (g := gb335) (o := .cells #[.string ⟨#[]⟩, .slice none 0 0, .string ⟨#[]⟩, .string ⟨#[]⟩, .slice none 0 0, .slice none 0 0, .slice none 0 0, .string ⟨#[]⟩] 28 (0, 0)) (by (with_reducible repeat (first | refine bN_ ?_ _ | refine bD_ ?_ | refine bA_ ?_ _)); exact BK335.out) hb)
        have n3_ := M_ (wT_ (by repeat (first | (with_reducible first | exact HB.out | apply wA_ | apply wN_ | apply wD_ | refine wS_ ?_ GE334.out | refine wS_ ?_ GE335.out) | exact HB.out)) hb)
        have n4_ := M_ (hbox)
        have n5_ := M_ ((by rw [hg]; exact (wZ_ (by repeat (first | (with_reducible first | exact HB.out | apply wA_ | apply wN_ | apply wD_ | refine wS_ ?_ GE334.out | refine wS_ ?_ GE335.out) | exact HB.out))) : w.heap.size ≤ gb349))
        have n6_ := M_ ((by rw [hg]; exact (wZ_ (by repeat (first | (with_reducible first | exact HB.out | apply wA_ | apply wN_ | apply wD_ | refine wS_ ?_ GE334.out | refine wS_ ?_ GE335.out) | exact HB.out))) : w.heap.size ≤ gb349))
        have n7_ := M_ ((by rw [hg]; exact Nat.ne_of_lt (blk_lt (g := gb334) (o := .cells #[.string a0_0, .slice A0_1 l0_1.length c0_1, .string a0_2, .string a0_3, .slice A0_4 l0_4.length c0_4, .slice A0_5 l0_5.length c0_5, .slice A0_6 l0_6.length c0_6, .string a0_7] 28 (0, 0)) (by (with_reducible repeat (first | refine bN_ ?_ _ | refine bD_ ?_ | refine bA_ ?_ _)); exact BK334.out)) : gb334 ≠ gb349))
        have n8_ := M_ ((by rw [hg]; exact Nat.ne_of_gt (blk_lt (g := gb334) (o := .cells #[.string a0_0, .slice A0_1 l0_1.length c0_1, .string a0_2, .string a0_3, .slice A0_4 l0_4.length c0_4, .slice A0_5 l0_5.length c0_5, .slice A0_6 l0_6.length c0_6, .string a0_7] 28 (0, 0)) (by (with_reducible repeat (first | refine bN_ ?_ _ | refine bD_ ?_ | refine bA_ ?_ _)); exact BK334.out)) : gb349 ≠ gb334))
        have n9_ := M_ ((by rw [hg]; exact Nat.ne_of_lt (blk_lt (g := gb335) (o := .cells #[.string ⟨#[]⟩, .slice none 0 0, .string ⟨#[]⟩, .string ⟨#[]⟩, .slice none 0 0, .slice none 0 0, .slice none 0 0, .string ⟨#[]⟩] 28 (0, 0)) (by (with_reducible repeat (first | refine bN_ ?_ _ | refine bD_ ?_ | refine bA_ ?_ _)); exact BK335.out)) : gb335 ≠ gb349))
        have n10_ := M_ ((by rw [hg]; exact Nat.ne_of_gt (blk_lt (g := gb335) (o := .cells #[.string ⟨#[]⟩, .slice none 0 0, .string ⟨#[]⟩, .string ⟨#[]⟩, .slice none 0 0, .slice none 0 0, .slice none 0 0, .string ⟨#[]⟩] 28 (0, 0)) (by (with_reducible repeat (first | refine bN_ ?_ _ | refine bD_ ?_ | refine bA_ ?_ _)); exact BK335.out)) : gb349 ≠ gb335))
        clear HO342 BK334 BK335 HB
        have HO342 := n0_; have BK334 := n1_; have BK335 := n2_; have HB := n3_; have BK349 := n4_; have GW349 := n5_; have GE349 := n6_; have NB334_349 := n7_; have NB349_334 := n8_; have NB335_349 := n9_; have NB349_335 := n10_
        clear n0_ n1_ n2_ n3_ n4_ n5_ n6_ n7_ n8_ n9_ n10_ hb hbox hg
        refine hK.out _ _ ⟨(bC_ BK334.out 0).trans rfl, (bC_ BK334.out 1).trans rfl, (bC_ BK334.out 2).trans rfl, (bC_ BK334.out 3).trans rfl, (bC_ BK334.out 4).trans rfl, (bC_ BK334.out 5).trans rfl, (bC_ BK334.out 6).trans rfl, (bC_ BK334.out 7).trans rfl⟩ (fun hHeld => ?_)
        clear hK K
        refine norm_ (a' := ?_) ?_ ?_
        rotate_left
        ·show Act.put _ (some 3) _ = _
         simp only [Act.put, sA_, sB_, sC_, i64_w, i32_w]
         rfl
        exact norm_ (by first | (simp only [putAll, Act.put, sA_, sB_, sC_]; done) | (simp only [putAll, Act.put, sA_, sB_, sC_]; rfl)) (hJ2_5_8_11_14_22 (v341, gb349) _ ⟨hHeld, (by (with_reducible repeat (first | apply rA_ | apply rN_ | apply rD_)); exact HO342.out), (by (with_reducible repeat (first | refine bN_ ?_ _ | refine bD_ ?_ | refine bA_ ?_ _)); exact BK334.out), (by (with_reducible repeat (first | refine bN_ ?_ _ | refine bD_ ?_ | refine bA_ ?_ _)); exact BK335.out), (by (with_reducible repeat (first | refine bN_ ?_ _ | refine bD_ ?_ | refine bA_ ?_ _)); exact BK349.out), GW349.out, GE349.out, NB334_349.out, NB349_334.out, NB335_349.out, NB349_335.out, (by repeat (first | (with_reducible first | exact HB.out | apply wA_ | apply wN_ | apply wD_ | refine wS_ ?_ GE334.out | refine wS_ ?_ GE335.out | refine wS_ ?_ GE349.out) | exact HB.out))⟩)
     ·skip
      rintro ⟨v341, gb349⟩ w14 ⟨hS_, h0_, h1_, h2_, h3_, h4_, h5_, h6_, h7_, h8_, h9_, h10_⟩
      have n0_ : Aside0 (Kd.R Kd.string 9 w14 w.heap.size (fun _ => True) v341 t340) := ⟨h0_⟩
      have n1_ : Aside0 (w14.heap[gb334]? = some (.cells #[.string a0_0, .slice A0_1 l0_1.length c0_1, .string a0_2, .string a0_3, .slice A0_4 l0_4.length c0_4, .slice A0_5 l0_5.length c0_5, .slice A0_6 l0_6.length c0_6, .string a0_7] 28 (0, 0))) := ⟨h1_⟩
      have n2_ : Aside0 (w14.heap[gb335]? = some (.cells #[.string ⟨#[]⟩, .slice none 0 0, .string ⟨#[]⟩, .string ⟨#[]⟩, .slice none 0 0, .slice none 0 0, .slice none 0 0, .string ⟨#[]⟩] 28 (0, 0))) := ⟨h2_⟩
      have n3_ : Aside0 (w14.heap[gb349]? = some (.cells #[.string ⟨#[]⟩, .slice none 0 0, .string ⟨#[]⟩, .string ⟨#[]⟩, .slice none 0 0, .slice none 0 0, .slice none 0 0, .string ⟨#[]⟩] 28 (0, 0))) := ⟨h3_⟩
      have n4_ : Aside0 (w.heap.size ≤ gb349) := ⟨h4_⟩
      have n5_ : Aside0 (w.heap.size ≤ gb349) := ⟨h5_⟩
      have n6_ : Aside0 (gb334 ≠ gb349) := ⟨h6_⟩
      have n7_ : Aside0 (gb349 ≠ gb334) := ⟨h7_⟩
      have n8_ : Aside0 (gb335 ≠ gb349) := ⟨h8_⟩
      have n9_ : Aside0 (gb349 ≠ gb335) := ⟨h9_⟩
      have n10_ : Aside0 (Below w.heap.size w w14) := ⟨h10_⟩
      clear BK334 BK335 HB h0_ h1_ h2_ h3_ h4_ h5_ h6_ h7_ h8_ h9_ h10_
      have HO342 := n0_; have BK334 := n1_; have BK335 := n2_; have BK349 := n3_; have GW349 := n4_; have GE349 := n5_; have NB334_349 := n6_; have NB349_334 := n7_; have NB335_349 := n8_; have NB349_335 := n9_; have HB := n10_
      clear n0_ n1_ n2_ n3_ n4_ n5_ n6_ n7_ n8_ n9_ n10_
      have hHeld : w14.cell? ⟨gb334, 0, none⟩ = some (.string a0_0) ∧ w14.cell? ⟨gb334, 1, none⟩ = some (.slice A0_1 l0_1.length c0_1) ∧ w14.cell? ⟨gb334, 2, none⟩ = some (.string a0_2) ∧ w14.cell? ⟨gb334, 3, none⟩ = some (.string a0_3) ∧ w14.cell? ⟨gb334, 4, none⟩ = some (.slice A0_4 l0_4.length c0_4) ∧ w14.cell? ⟨gb334, 5, none⟩ = some (.slice A0_5 l0_5.length c0_5) ∧ w14.cell? ⟨gb334, 6, none⟩ = some (.slice A0_6 l0_6.length c0_6) ∧ w14.cell? ⟨gb334, 7, none⟩ = some (.string a0_7) := hS_
      refine norm_ (a' := ?_) ?_ ?_
      rotate_left
      ·simp only [putAll, Act.put, sA_, sB_, sC_]
       rfl
      refine one_ (i := 17) (N := some 22) #[true, true, true, true, true, true, true, true, true, true, true, true, true, true, true, true, true, true, true, true, false, false, true, false] rfl rfl (one_of HT_.out (by kernel_rfl)) (by decide) (fun K hK => ?_)
      refine goes_ Try.func38 (by kernel_rfl) rfl #[.slice A0_4 l0_4.length c0_4] (by rfl) rfl rfl (by (try simp only [List.map_toArray, List.map_cons, List.map_nil]); first | done | rfl | (simp only [List.length_drop, List.length_take]; rfl)) ?_
      with_reducible refine (isoglosslaw06_row.calls k _ _ l0_4 t343 _ ?side1 ?side2 A7.out).mono ?_
      (case side1 => repeat (first | exact (cB_ HR0_4.out HB.out) | (with_reducible refine cA_ ?_ _) | (with_reducible refine cN_ ?_ _) | (with_reducible refine cD_ ?_)))
      (case side2 => exact HC0_4.out)
      rintro e w15 ⟨v344, rfl, ho0, hb⟩
      refine ⟨_, rfl, ?_⟩
      have n0_ := M_ (rL_ (by (with_reducible repeat (first | apply rA_ | apply rN_ | apply rD_)); exact HO342.out) (Kd.R_base ho0) hb)
      have n1_ := M_ (Kd.R_lower (Kd.R_new' ho0 (rT_ (by (with_reducible repeat (first | apply rA_ | apply rN_ | apply rD_)); exact HO342.out))) (wZ_ (by repeat (first | (with_reducible first | exact HB.out | apply wA_ | apply wN_ | apply wD_ | refine wS_ ?_ GE334.out | refine wS_ ?_ GE335.out | refine wS_ ?_ GE349.out) | exact HB.out))))
      have n2_ := M_ (blk_below (g := gb334) (o := .cells #[.string a0_0, .slice A0_1 l0_1.length c0_1, .string a0_2, .string a0_3, .slice A0_4 l0_4.length c0_4, .slice A0_5 l0_5.length c0_5, .slice A0_6 l0_6.length c0_6, .string a0_7] 28 (0, 0)) (by (with_reducible repeat (first | refine bN_ ?_ _ | refine bD_ ?_ | refine bA_ ?_ _)); exact BK334.out) hb)
      have n3_ := M_ (blk_below (g := gb335) (o := .cells #[.string ⟨#[]⟩, .slice none 0 0, .string ⟨#[]⟩, .string ⟨#[]⟩, .slice none 0 0, .slice none 0 0, .slice none 0 0, .string ⟨#[]⟩] 28 (0, 0)) (by (with_reducible repeat (first | refine bN_ ?_ _ | refine bD_ ?_ | refine bA_ ?_ _)); exact BK335.out) hb)
      have n4_ := M_ (blk_below (g := gb349) (o := .cells #[.string ⟨#[]⟩, .slice none 0 0, .string ⟨#[]⟩, .string ⟨#[]⟩, .slice none 0 0, .slice none 0 0, .slice none 0 0, .string ⟨#[]⟩] 28 (0, 0)) (by (with_reducible repeat (first | refine bN_ ?_ _ | refine bD_ ?_ | refine bA_ ?_ _)); exact BK349.out) hb)
      have n5_ := M_ (wT_ (by repeat (first | (with_reducible first | exact HB.out | apply wA_ | apply wN_ | apply wD_ | refine wS_ ?_ GE334.out | refine wS_ ?_ GE335.out | refine wS_ ?_ GE349.out) | exact HB.out)) hb)
      clear HO342 BK334 BK335 BK349 HB
      have HO342 := n0_; have HO345 := n1_; have BK334 := n2_; have BK335 := n3_; have BK349 := n4_; have HB := n5_
      clear n0_ n1_ n2_ n3_ n4_ n5_
      (try clear hb); (try clear hb2); (try clear hk); (try clear hi); (try clear ho0)
      refine hK.out _ _ ⟨(bC_ BK334.out 0).trans rfl, (bC_ BK334.out 1).trans rfl, (bC_ BK334.out 2).trans rfl, (bC_ BK334.out 3).trans rfl, (bC_ BK334.out 4).trans rfl, (bC_ BK334.out 5).trans rfl, (bC_ BK334.out 6).trans rfl, (bC_ BK334.out 7).trans rfl⟩ (fun hHeld => ?_)
      clear hK K
      refine norm_ (a' := ?_) ?_ ?_
      rotate_left
      ·show Act.put _ (some 22) _ = _
       simp only [Act.put, sA_, sB_, sC_, i64_w, i32_w]
       rfl
      exact norm_ (by first | (simp only [putAll, Act.put, sA_, sB_, sC_]; done) | (simp only [putAll, Act.put, sA_, sB_, sC_]; rfl)) (hJ2_5_8_11_14_17_22 (v341, v344, gb349) _ ⟨hHeld, (by (with_reducible repeat (first | apply rA_ | apply rN_ | apply rD_)); exact rM_ HO342.out (fun _ hk => hk.2)), (by (with_reducible repeat (first | apply rA_ | apply rN_ | apply rD_)); exact rM_ HO345.out (fun _ hk => hk.2)), (by (with_reducible repeat (first | refine bN_ ?_ _ | refine bD_ ?_ | refine bA_ ?_ _)); exact BK334.out), (by (with_reducible repeat (first | refine bN_ ?_ _ | refine bD_ ?_ | refine bA_ ?_ _)); exact BK335.out), (by (with_reducible repeat (first | refine bN_ ?_ _ | refine bD_ ?_ | refine bA_ ?_ _)); exact BK349.out), GW349.out, GE349.out, NB334_349.out, NB349_334.out, NB335_349.out, NB349_335.out, (by repeat (first | (with_reducible first | exact HB.out | apply wA_ | apply wN_ | apply wD_ | refine wS_ ?_ GE334.out | refine wS_ ?_ GE335.out | refine wS_ ?_ GE349.out) | exact HB.out))⟩)
    ·skip
     rintro ⟨v341, v344⟩ w14 ⟨hS_, h0_, h1_, h2_, h3_, h4_⟩
     have n0_ : Aside0 (Kd.R Kd.string 9 w14 w.heap.size (fun k_ => some k_ ≠ (v344 : Value).ownBlock) v341 t340) := ⟨h0_⟩
     have n1_ : Aside0 (Kd.R Kd.string 9 w14 w.heap.size (fun k_ => some k_ ≠ (v341 : Value).ownBlock) v344 t343) := ⟨h1_⟩
     have n2_ : Aside0 (w14.heap[gb334]? = some (.cells #[.string a0_0, .slice A0_1 l0_1.length c0_1, .string a0_2, .string a0_3, .slice A0_4 l0_4.length c0_4, .slice A0_5 l0_5.length c0_5, .slice A0_6 l0_6.length c0_6, .string a0_7] 28 (0, 0))) := ⟨h2_⟩
     have n3_ : Aside0 (w14.heap[gb335]? = some (.cells #[.string ⟨#[]⟩, .slice none 0 0, .string ⟨#[]⟩, .string ⟨#[]⟩, .slice none 0 0, .slice none 0 0, .slice none 0 0, .string ⟨#[]⟩] 28 (0, 0))) := ⟨h3_⟩
     have n4_ : Aside0 (Below w.heap.size w w14) := ⟨h4_⟩
     clear BK334 BK335 HB h0_ h1_ h2_ h3_ h4_
     have HO342 := n0_; have HO345 := n1_; have BK334 := n2_; have BK335 := n3_; have HB := n4_
     clear n0_ n1_ n2_ n3_ n4_
     have hHeld : w14.cell? ⟨gb334, 0, none⟩ = some (.string a0_0) ∧ w14.cell? ⟨gb334, 1, none⟩ = some (.slice A0_1 l0_1.length c0_1) ∧ w14.cell? ⟨gb334, 2, none⟩ = some (.string a0_2) ∧ w14.cell? ⟨gb334, 3, none⟩ = some (.string a0_3) ∧ w14.cell? ⟨gb334, 4, none⟩ = some (.slice A0_4 l0_4.length c0_4) ∧ w14.cell? ⟨gb334, 5, none⟩ = some (.slice A0_5 l0_5.length c0_5) ∧ w14.cell? ⟨gb334, 6, none⟩ = some (.slice A0_6 l0_6.length c0_6) ∧ w14.cell? ⟨gb334, 7, none⟩ = some (.string a0_7) := hS_
     refine norm_ (a' := ?_) ?_ ?_
     rotate_left
     ·simp only [putAll, Act.put, sA_, sB_, sC_]
      rfl
     refine two_ (i := 20) (j := 22) (Ni := some 25) (Nj := some 3) #[true, true, true, true, true, true, true, true, true, true, true, true, true, true, true, true, true, true, true, true, true, false, false, false] #[true, true, true, true, true, true, true, true, true, true, true, true, true, true, true, true, true, true, true, true, false, false, true, false] rfl rfl rfl rfl (two_of HT_.out (by kernel_rfl)) (by decide) (by decide) (fun K hK => ?_) (fun K hK => ?_)
     ·skip
      refine goes_ Try.func38 (by kernel_rfl) rfl #[.slice A0_6 l0_6.length c0_6] (by rfl) rfl rfl (by (try simp only [List.map_toArray, List.map_cons, List.map_nil]); first | done | rfl | (simp only [List.length_drop, List.length_take]; rfl)) ?_
      with_reducible refine (isoglosslaw06_row.calls k _ _ l0_6 t346 _ ?side1 ?side2 A8.out).mono ?_
      (case side1 => repeat (first | exact (cB_ HR0_6.out HB.out) | (with_reducible refine cA_ ?_ _) | (with_reducible refine cN_ ?_ _) | (with_reducible refine cD_ ?_)))
      (case side2 => exact HC0_6.out)
      rintro e w15 ⟨v347, rfl, ho0, hb⟩
      refine ⟨_, rfl, ?_⟩
      have n0_ := M_ (rL_ (by (with_reducible repeat (first | apply rA_ | apply rN_ | apply rD_)); exact HO342.out) (Kd.R_base ho0) hb)
      have n1_ := M_ (rL_ (by (with_reducible repeat (first | apply rA_ | apply rN_ | apply rD_)); exact HO345.out) (Kd.R_base ho0) hb)
      have n2_ := M_ (Kd.R_lower (Kd.R_new' (Kd.R_new' ho0 (rT_ (by (with_reducible repeat (first | apply rA_ | apply rN_ | apply rD_)); exact HO342.out))) (rT_ (by (with_reducible repeat (first | apply rA_ | apply rN_ | apply rD_)); exact HO345.out))) (wZ_ (by repeat (first | (with_reducible first | exact HB.out | apply wA_ | apply wN_ | apply wD_ | refine wS_ ?_ GE334.out | refine wS_ ?_ GE335.out) | exact HB.out))))
      have n3_ := M_ (blk_below (g := gb334) (o := .cells #[.string a0_0, .slice A0_1 l0_1.length c0_1, .string a0_2, .string a0_3, .slice A0_4 l0_4.length c0_4, .slice A0_5 l0_5.length c0_5, .slice A0_6 l0_6.length c0_6, .string a0_7] 28 (0, 0)) (by (with_reducible repeat (first | refine bN_ ?_ _ | refine bD_ ?_ | refine bA_ ?_ _)); exact BK334.out) hb)
      have n4_ := M_ (blk_below (g := gb335) (o := .cells #[.string ⟨#[]⟩, .slice none 0 0, .string ⟨#[]⟩, .string ⟨#[]⟩, .slice none 0 0, .slice none 0 0, .slice none 0 0, .string ⟨#[]⟩] 28 (0, 0)) (by (with_reducible repeat (first | refine bN_ ?_ _ | refine bD_ ?_ | refine bA_ ?_ _)); exact BK335.out) hb)
      have n5_ := M_ (wT_ (by repeat (first | (with_reducible first | exact HB.out | apply wA_ | apply wN_ | apply wD_ | refine wS_ ?_ GE334.out | refine wS_ ?_ GE335.out) | exact HB.out)) hb)
      clear HO342 HO345 BK334 BK335 HB
      have HO342 := n0_; have HO345 := n1_; have HO348 := n2_; have BK334 := n3_; have BK335 := n4_; have HB := n5_
      clear n0_ n1_ n2_ n3_ n4_ n5_
      (try clear hb); (try clear hb2); (try clear hk); (try clear hi); (try clear ho0)
      obtain ⟨Ao16, co16, eo16⟩ := Kd.R_slice HO348.out
      (first | subst eo16 | (injection eo16 with f1_ f2_ f3_; have f4_ := f1_.symm; have f5_ := f3_.symm; clear f1_ f2_ f3_; subst f4_; subst f5_))
      obtain ⟨Ao17, co17, eo17⟩ := Kd.R_slice HO345.out
      (first | subst eo17 | (injection eo17 with f1_ f2_ f3_; have f4_ := f1_.symm; have f5_ := f3_.symm; clear f1_ f2_ f3_; subst f4_; subst f5_))
      obtain ⟨Ao18, co18, eo18⟩ := Kd.R_slice HO342.out
      (first | subst eo18 | (injection eo18 with f1_ f2_ f3_; have f4_ := f1_.symm; have f5_ := f3_.symm; clear f1_ f2_ f3_; subst f4_; subst f5_))
      refine hK.out _ _ ⟨(bC_ BK334.out 0).trans rfl, (bC_ BK334.out 1).trans rfl, (bC_ BK334.out 2).trans rfl, (bC_ BK334.out 3).trans rfl, (bC_ BK334.out 4).trans rfl, (bC_ BK334.out 5).trans rfl, (bC_ BK334.out 6).trans rfl, (bC_ BK334.out 7).trans rfl⟩ (fun hHeld => ?_)
      clear hK K
      refine norm_ (a' := ?_) ?_ ?_
      rotate_left
      ·show Act.put _ (some 25) _ = _
       simp only [Act.put, sA_, sB_, sC_, i64_w, i32_w]
       rfl
      refine pure_ (i := 21) (N := some 26) (v := ?_) (a' := ?_) #[true, true, true, true, true, true, true, true, true, true, true, true, true, true, true, true, true, true, true, true, true, true, false, false] rfl rfl (any_of HT_.out (by kernel_rfl)) (fun _ _ _ h => h) (Or.inl ⟨by rfl, ?_⟩) ?_ ?_
      rotate_left
      ·intro w'
       go_simp
       with_reducible rfl
      rotate_left
      ·simp only [Act.put, sA_, sB_, sC_, i64_w, i32_w]
       rfl
      exact norm_ (by first | (simp only [putAll, Act.put, sA_, sB_, sC_]; done) | (simp only [putAll, Act.put, sA_, sB_, sC_]; rfl)) (hJ2_5_8_11_14_17_20 (.slice Ao18 t340.length co18, .slice Ao17 t343.length co17, .slice Ao16 t346.length co16) _ ⟨hHeld, (by (with_reducible repeat (first | apply rA_ | apply rN_ | apply rD_)); exact HO342.out), (by (with_reducible repeat (first | apply rA_ | apply rN_ | apply rD_)); exact HO345.out), (by (with_reducible repeat (first | apply rA_ | apply rN_ | apply rD_)); exact rM_ HO348.out (fun _ hk => ⟨hk.1.2, hk.2⟩)), (by (with_reducible repeat (first | refine bN_ ?_ _ | refine bD_ ?_ | refine bA_ ?_ _)); exact BK334.out), (by (with_reducible repeat (first | refine bN_ ?_ _ | refine bD_ ?_ | refine bA_ ?_ _)); exact BK335.out), (by repeat (first | (with_reducible first | exact HB.out | apply wA_ | apply wN_ | apply wD_ | refine wS_ ?_ GE334.out | refine wS_ ?_ GE335.out) | exact HB.out))⟩)
     ·skip
      refine box_step ?hg (N := 3) ?hd (cs := #[.string ⟨#[]⟩, .slice none 0 0, .string ⟨#[]⟩, .string ⟨#[]⟩, .slice none 0 0, .slice none 0 0, .slice none 0 0, .string ⟨#[]⟩]) (t := 28) ?hr ?_; (case hd => rfl); (case hg => rfl); (case hr => first | (go_simp; done) | (go_simp; rfl))
      intro gb349 hg w15 hbox hb
      have n0_ := M_ (Kd.R_below (by (with_reducible repeat (first | apply rA_ | apply rN_ | apply rD_)); exact HO342.out) hb)
      have n1_ := M_ (Kd.R_below (by (with_reducible repeat (first | apply rA_ | apply rN_ | apply rD_)); exact HO345.out) hb)
      have n2_ := M_ (blk_below (g := gb334) (o := .cells #[.string a0_0, .slice A0_1 l0_1.length c0_1, .string a0_2, .string a0_3, .slice A0_4 l0_4.length c0_4, .slice A0_5 l0_5.length c0_5, .slice A0_6 l0_6.length c0_6, .string a0_7] 28 (0, 0)) (by (with_reducible repeat (first | refine bN_ ?_ _ | refine bD_ ?_ | refine bA_ ?_ _)); exact BK334.out) hb)
      have n3_ := M_ (blk_below (g := gb335) (o := .cells #[.string ⟨#[]⟩, .slice none 0 0, .string ⟨#[]⟩, .string ⟨#[]⟩, .slice none 0 0, .slice none 0 0, .slice none 0 0, .string ⟨#[]⟩] 28 (0, 0)) (by (with_reducible repeat (first | refine bN_ ?_ _ | refine bD_ ?_ | refine bA_ ?_ _)); exact BK335.out) hb)
      have n4_ := M_ (wT_ (by repeat (first | (with_reducible first | exact HB.out | apply wA_ | apply wN_ | apply wD_ | refine wS_ ?_ GE334.out | refine wS_ ?_ GE335.out) | exact HB.out)) hb)
      have n5_ := M_ (hbox)
      have n6_ := M_ ((by rw [hg]; exact (wZ_ (by repeat (first | (with_reducible first | exact HB.out | apply wA_ | apply wN_ | apply wD_ | refine wS_ ?_ GE334.out | refine wS_ ?_ GE335.out) | exact HB.out))) : w.heap.size ≤ gb349))
      have n7_ := M_ ((by rw [hg]; exact (wZ_ (by repeat (first | (with_reducible first | exact HB.out | apply wA_ | apply wN_ | apply wD_ | refine wS_ ?_ GE334.out | refine wS_ ?_ GE335.out) | exact HB.out))) : w.heap.size ≤ gb349))
      have n8_ := M_ ((by rw [hg]; exact Nat.ne_of_lt (blk_lt (g := gb334) (o := .cells #[.string a0_0, .slice A0_1 l0_1.length c0_1, .string a0_2, .string a0_3, .slice A0_4 l0_4.length c0_4, .slice A0_5 l0_5.length c0_5, .slice A0_6 l0_6.length c0_6, .string a0_7] 28 (0, 0)) (by (with_reducible repeat (first | refine bN_ ?_ _ | refine bD_ ?_ | refine bA_ ?_ _)); exact BK334.out)) : gb334 ≠ gb349))
      have n9_ := M_ ((by rw [hg]; exact Nat.ne_of_gt (blk_lt (g := gb334) (o := .cells #[.string a0_0, .slice A0_1 l0_1.length c0_1, .string a0_2, .string a0_3, .slice A0_4 l0_4.length c0_4, .slice A0_5 l0_5.length c0_5, .slice A0_6 l0_6.length c0_6, .string a0_7] 28 (0, 0)) (by (with_reducible repeat (first | refine bN_ ?_ _ | refine bD_ ?_ | refine bA_ ?_ _)); exact BK334.out)) : gb349 ≠ gb334))
      have n10_ := M_ ((by rw [hg]; exact Nat.ne_of_lt (blk_lt (g := gb335) (o := .cells #[.string ⟨#[]⟩, .slice none 0 0, .string ⟨#[]⟩, .string ⟨#[]⟩, .slice none 0 0, .slice none 0 0, .slice none 0 0, .string ⟨#[]⟩] 28 (0, 0)) (by (with_reducible repeat (first | refine bN_ ?_ _ | refine bD_ ?_ | refine bA_ ?_ _)); exact BK335.out)) : gb335 ≠ gb349))
      have n11_ := M_ ((by rw [hg]; exact Nat.ne_of_gt (blk_lt (g := gb335) (o := .cells #[.string ⟨#[]⟩, .slice none 0 0, .string ⟨#[]⟩, .string ⟨#[]⟩, .slice none 0 0, .slice none 0 0, .slice none 0 0, .string ⟨#[]⟩] 28 (0, 0)) (by (with_reducible repeat (first | refine bN_ ?_ _ | refine bD_ ?_ | refine bA_ ?_ _)); exact BK335.out)) : gb349 ≠ gb335))
      clear HO342 HO345 BK334 BK335 HB
      have HO342 := n0_; have HO345 := n1_; have BK334 := n2_; have BK335 := n3_; have HB := n4_; have BK349 := n5_; have GW349 := n6_; have GE349 := n7_; have NB334_349 := n8_; have NB349_334 := n9_; have NB335_349 := n10_; have NB349_335 := n11_
      clear n0_ n1_ n2_ n3_ n4_ n5_ n6_ n7_ n8_ n9_ n10_ n11_ hb hbox hg
      refine hK.out _ _ ⟨(bC_ BK334.out 0).trans rfl, (bC_ BK334.out 1).trans rfl, (bC_ BK334.out 2).trans rfl, (bC_ BK334.out 3).trans rfl, (bC_ BK334.out 4).trans rfl, (bC_ BK334.out 5).trans rfl, (bC_ BK334.out 6).trans rfl, (bC_ BK334.out 7).trans rfl⟩ (fun hHeld => ?_)
      clear hK K
      refine norm_ (a' := ?_) ?_ ?_
      rotate_left
      ·show Act.put _ (some 3) _ = _
       simp only [Act.put, sA_, sB_, sC_, i64_w, i32_w]
       rfl
      exact norm_ (by first | (simp only [putAll, Act.put, sA_, sB_, sC_]; done) | (simp only [putAll, Act.put, sA_, sB_, sC_]; rfl)) (hJ2_5_8_11_14_17_22 (v341, v344, gb349) _ ⟨hHeld, (by (with_reducible repeat (first | apply rA_ | apply rN_ | apply rD_)); exact HO342.out), (by (with_reducible repeat (first | apply rA_ | apply rN_ | apply rD_)); exact HO345.out), (by (with_reducible repeat (first | refine bN_ ?_ _ | refine bD_ ?_ | refine bA_ ?_ _)); exact BK334.out), (by (with_reducible repeat (first | refine bN_ ?_ _ | refine bD_ ?_ | refine bA_ ?_ _)); exact BK335.out), (by (with_reducible repeat (first | refine bN_ ?_ _ | refine bD_ ?_ | refine bA_ ?_ _)); exact BK349.out), GW349.out, GE349.out, NB334_349.out, NB349_334.out, NB335_349.out, NB349_335.out, (by repeat (first | (with_reducible first | exact HB.out | apply wA_ | apply wN_ | apply wD_ | refine wS_ ?_ GE334.out | refine wS_ ?_ GE335.out | refine wS_ ?_ GE349.out) | exact HB.out))⟩)
   ·skip
    rintro ⟨v341, v344, gb349⟩ w15 ⟨hS_, h0_, h1_, h2_, h3_, h4_, h5_, h6_, h7_, h8_, h9_, h10_, h11_⟩
    have n0_ : Aside0 (Kd.R Kd.string 9 w15 w.heap.size (fun k_ => some k_ ≠ (v344 : Value).ownBlock) v341 t340) := ⟨h0_⟩
    have n1_ : Aside0 (Kd.R Kd.string 9 w15 w.heap.size (fun k_ => some k_ ≠ (v341 : Value).ownBlock) v344 t343) := ⟨h1_⟩
    have n2_ : Aside0 (w15.heap[gb334]? = some (.cells #[.string a0_0, .slice A0_1 l0_1.length c0_1, .string a0_2, .string a0_3, .slice A0_4 l0_4.length c0_4, .slice A0_5 l0_5.length c0_5, .slice A0_6 l0_6.length c0_6, .string a0_7] 28 (0, 0))) := ⟨h2_⟩
    have n3_ : Aside0 (w15.heap[gb335]? = some (.cells #[.string ⟨#[]⟩, .slice none 0 0, .string ⟨#[]⟩, .string ⟨#[]⟩, .slice none 0 0, .slice none 0 0, .slice none 0 0, .string ⟨#[]⟩] 28 (0, 0))) := ⟨h3_⟩
    have n4_ : Aside0 (w15.heap[gb349]? = some (.cells #[.string ⟨#[]⟩, .slice none 0 0, .string ⟨#[]⟩, .string ⟨#[]⟩, .slice none 0 0, .slice none 0 0, .slice none 0 0, .string ⟨#[]⟩] 28 (0, 0))) := ⟨h4_⟩
    have n5_ : Aside0 (w.heap.size ≤ gb349) := ⟨h5_⟩
    have n6_ : Aside0 (w.heap.size ≤ gb349) := ⟨h6_⟩
    have n7_ : Aside0 (gb334 ≠ gb349) := ⟨h7_⟩
    have n8_ : Aside0 (gb349 ≠ gb334) := ⟨h8_⟩
    have n9_ : Aside0 (gb335 ≠ gb349) := ⟨h9_⟩
    have n10_ : Aside0 (gb349 ≠ gb335) := ⟨h10_⟩
    have n11_ : Aside0 (Below w.heap.size w w15) := ⟨h11_⟩
    clear BK334 BK335 HB h0_ h1_ h2_ h3_ h4_ h5_ h6_ h7_ h8_ h9_ h10_ h11_
    have HO342 := n0_; have HO345 := n1_; have BK334 := n2_; have BK335 := n3_; have BK349 := n4_; have GW349 := n5_; have GE349 := n6_; have NB334_349 := n7_; have NB349_334 := n8_; have NB335_349 := n9_; have NB349_335 := n10_; have HB := n11_
    clear n0_ n1_ n2_ n3_ n4_ n5_ n6_ n7_ n8_ n9_ n10_ n11_
    have hHeld : w15.cell? ⟨gb334, 0, none⟩ = some (.string a0_0) ∧ w15.cell? ⟨gb334, 1, none⟩ = some (.slice A0_1 l0_1.length c0_1) ∧ w15.cell? ⟨gb334, 2, none⟩ = some (.string a0_2) ∧ w15.cell? ⟨gb334, 3, none⟩ = some (.string a0_3) ∧ w15.cell? ⟨gb334, 4, none⟩ = some (.slice A0_4 l0_4.length c0_4) ∧ w15.cell? ⟨gb334, 5, none⟩ = some (.slice A0_5 l0_5.length c0_5) ∧ w15.cell? ⟨gb334, 6, none⟩ = some (.slice A0_6 l0_6.length c0_6) ∧ w15.cell? ⟨gb334, 7, none⟩ = some (.string a0_7) := hS_
    refine norm_ (a' := ?_) ?_ ?_
    rotate_left
    ·simp only [putAll, Act.put, sA_, sB_, sC_]
     rfl
    refine one_ (i := 20) (N := some 25) #[true, true, true, true, true, true, true, true, true, true, true, true, true, true, true, true, true, true, true, true, true, false, true, false] rfl rfl (one_of HT_.out (by kernel_rfl)) (by decide) (fun K hK => ?_)
    refine goes_ Try.func38 (by kernel_rfl) rfl #[.slice A0_6 l0_6.length c0_6] (by rfl) rfl rfl (by (try simp only [List.map_toArray, List.map_cons, List.map_nil]); first | done | rfl | (simp only [List.length_drop, List.length_take]; rfl)) ?_
    with_reducible refine (isoglosslaw06_row.calls k _ _ l0_6 t346 _ ?side1 ?side2 A8.out).mono ?_
    (case side1 => repeat (first | exact (cB_ HR0_6.out HB.out) | (with_reducible refine cA_ ?_ _) | (with_reducible refine cN_ ?_ _) | (with_reducible refine cD_ ?_)))
    (case side2 => exact HC0_6.out)
    rintro e w16 ⟨v347, rfl, ho0, hb⟩
    refine ⟨_, rfl, ?_⟩
    have n0_ := M_ (rL_ (by (with_reducible repeat (first | apply rA_ | apply rN_ | apply rD_)); exact HO342.out) (Kd.R_base ho0) hb)
    have n1_ := M_ (rL_ (by (with_reducible repeat (first | apply rA_ | apply rN_ | apply rD_)); exact HO345.out) (Kd.R_base ho0) hb)
    have n2_ := M_ (Kd.R_lower (Kd.R_new' (Kd.R_new' ho0 (rT_ (by (with_reducible repeat (first | apply rA_ | apply rN_ | apply rD_)); exact HO342.out))) (rT_ (by (with_reducible repeat (first | apply rA_ | apply rN_ | apply rD_)); exact HO345.out))) (wZ_ (by repeat (first | (with_reducible first | exact HB.out | apply wA_ | apply wN_ | apply wD_ | refine wS_ ?_ GE334.out | refine wS_ ?_ GE335.out | refine wS_ ?_ GE349.out) | exact HB.out))))
    have n3_ := M_ (blk_below (g := gb334) (o := .cells #[.string a0_0, .slice A0_1 l0_1.length c0_1, .string a0_2, .string a0_3, .slice A0_4 l0_4.length c0_4, .slice A0_5 l0_5.length c0_5, .slice A0_6 l0_6.length c0_6, .string a0_7] 28 (0, 0)) (by (with_reducible repeat (first | refine bN_ ?_ _ | refine bD_ ?_ | refine bA_ ?_ _)); exact BK334.out) hb)
    have n4_ := M_ (blk_below (g := gb335) (o := .cells #[.string ⟨#[]⟩, .slice none 0 0, .string ⟨#[]⟩, .string ⟨#[]⟩, .slice none 0 0, .slice none 0 0, .slice none 0 0, .string ⟨#[]⟩] 28 (0, 0)) (by (with_reducible repeat (first | refine bN_ ?_ _ | refine bD_ ?_ | refine bA_ ?_ _)); exact BK335.out) hb)
    have n5_ := M_ (blk_below (g := gb349) (o := .cells #[.string ⟨#[]⟩, .slice none 0 0, .string ⟨#[]⟩, .string ⟨#[]⟩, .slice none 0 0, .slice none 0 0, .slice none 0 0, .string ⟨#[]⟩] 28 (0, 0)) (by (with_reducible repeat (first | refine bN_ ?_ _ | refine bD_ ?_ | refine bA_ ?_ _)); exact BK349.out) hb)
    have n6_ := M_ (wT_ (by repeat (first | (with_reducible first | exact HB.out | apply wA_ | apply wN_ | apply wD_ | refine wS_ ?_ GE334.out | refine wS_ ?_ GE335.out | refine wS_ ?_ GE349.out) | exact HB.out)) hb)
    clear HO342 HO345 BK334 BK335 BK349 HB
    have HO342 := n0_; have HO345 := n1_; have HO348 := n2_; have BK334 := n3_; have BK335 := n4_; have BK349 := n5_; have HB := n6_
    clear n0_ n1_ n2_ n3_ n4_ n5_ n6_
    (try clear hb); (try clear hb2); (try clear hk); (try clear hi); (try clear ho0)
    obtain ⟨Ao17, co17, eo17⟩ := Kd.R_slice HO348.out
    (first | subst eo17 | (injection eo17 with f1_ f2_ f3_; have f4_ := f1_.symm; have f5_ := f3_.symm; clear f1_ f2_ f3_; subst f4_; subst f5_))
    obtain ⟨Ao18, co18, eo18⟩ := Kd.R_slice HO345.out
    (first | subst eo18 | (injection eo18 with f1_ f2_ f3_; have f4_ := f1_.symm; have f5_ := f3_.symm; clear f1_ f2_ f3_; subst f4_; subst f5_))
    obtain ⟨Ao19, co19, eo19⟩ := Kd.R_slice HO342.out
    (first | subst eo19 | (injection eo19 with f1_ f2_ f3_; have f4_ := f1_.symm; have f5_ := f3_.symm; clear f1_ f2_ f3_; subst f4_; subst f5_))
    refine hK.out _ _ ⟨(bC_ BK334.out 0).trans rfl, (bC_ BK334.out 1).trans rfl, (bC_ BK334.out 2).trans rfl, (bC_ BK334.out 3).trans rfl, (bC_ BK334.out 4).trans rfl, (bC_ BK334.out 5).trans rfl, (bC_ BK334.out 6).trans rfl, (bC_ BK334.out 7).trans rfl⟩ (fun hHeld => ?_)
    clear hK K
    refine norm_ (a' := ?_) ?_ ?_
    rotate_left
    ·show Act.put _ (some 25) _ = _
     simp only [Act.put, sA_, sB_, sC_, i64_w, i32_w]
     rfl
    refine pure_ (i := 21) (N := some 26) (v := ?_) (a' := ?_) #[true, true, true, true, true, true, true, true, true, true, true, true, true, true, true, true, true, true, true, true, true, true, true, false] rfl rfl (any_of HT_.out (by kernel_rfl)) (fun _ _ _ h => h) (Or.inl ⟨by rfl, ?_⟩) ?_ ?_
    rotate_left
    ·intro w'
     go_simp
     with_reducible rfl
    rotate_left
    ·simp only [Act.put, sA_, sB_, sC_, i64_w, i32_w]
     rfl
    exact norm_ (by first | (simp only [putAll, Act.put, sA_, sB_, sC_]; done) | (simp only [putAll, Act.put, sA_, sB_, sC_]; rfl)) (hJ2_5_8_11_14_17_20_22 (.slice Ao19 t340.length co19, .slice Ao18 t343.length co18, .slice Ao17 t346.length co17, gb349) _ ⟨hHeld, (by (with_reducible repeat (first | apply rA_ | apply rN_ | apply rD_)); exact HO342.out), (by (with_reducible repeat (first | apply rA_ | apply rN_ | apply rD_)); exact HO345.out), (by (with_reducible repeat (first | apply rA_ | apply rN_ | apply rD_)); exact rM_ HO348.out (fun _ hk => ⟨hk.1.2, hk.2⟩)), (by (with_reducible repeat (first | refine bN_ ?_ _ | refine bD_ ?_ | refine bA_ ?_ _)); exact BK334.out), (by (with_reducible repeat (first | refine bN_ ?_ _ | refine bD_ ?_ | refine bA_ ?_ _)); exact BK335.out), (by (with_reducible repeat (first | refine bN_ ?_ _ | refine bD_ ?_ | refine bA_ ?_ _)); exact BK349.out), GW349.out, GE349.out, NB334_349.out, NB349_334.out, NB335_349.out, NB349_335.out, (by repeat (first | (with_reducible first | exact HB.out | apply wA_ | apply wN_ | apply wD_ | refine wS_ ?_ GE334.out | refine wS_ ?_ GE335.out | refine wS_ ?_ GE349.out) | exact HB.out))⟩)
  ·skip
   rintro ⟨v341, v344, v347⟩ w18 ⟨hS_, h0_, h1_, h2_, h3_, h4_, h5_⟩
   have n0_ : Aside0 (Kd.R Kd.string 9 w18 w.heap.size (fun k_ => some k_ ≠ (v344 : Value).ownBlock ∧ some k_ ≠ (v347 : Value).ownBlock) v341 t340) := ⟨h0_⟩
   have n1_ : Aside0 (Kd.R Kd.string 9 w18 w.heap.size (fun k_ => some k_ ≠ (v341 : Value).ownBlock ∧ some k_ ≠ (v347 : Value).ownBlock) v344 t343) := ⟨h1_⟩
   have n2_ : Aside0 (Kd.R Kd.string 9 w18 w.heap.size (fun k_ => some k_ ≠ (v341 : Value).ownBlock ∧ some k_ ≠ (v344 : Value).ownBlock) v347 t346) := ⟨h2_⟩
   have n3_ : Aside0 (w18.heap[gb334]? = some (.cells #[.string a0_0, .slice A0_1 l0_1.length c0_1, .string a0_2, .string a0_3, .slice A0_4 l0_4.length c0_4, .slice A0_5 l0_5.length c0_5, .slice A0_6 l0_6.length c0_6, .string a0_7] 28 (0, 0))) := ⟨h3_⟩
   have n4_ : Aside0 (w18.heap[gb335]? = some (.cells #[.string ⟨#[]⟩, .slice none 0 0, .string ⟨#[]⟩, .string ⟨#[]⟩, .slice none 0 0, .slice none 0 0, .slice none 0 0, .string ⟨#[]⟩] 28 (0, 0))) := ⟨h4_⟩
   have n5_ : Aside0 (Below w.heap.size w w18) := ⟨h5_⟩
   clear BK334 BK335 HB h0_ h1_ h2_ h3_ h4_ h5_
   have HO342 := n0_; have HO345 := n1_; have HO348 := n2_; have BK334 := n3_; have BK335 := n4_; have HB := n5_
   clear n0_ n1_ n2_ n3_ n4_ n5_
   have hHeld : w18.cell? ⟨gb334, 0, none⟩ = some (.string a0_0) ∧ w18.cell? ⟨gb334, 1, none⟩ = some (.slice A0_1 l0_1.length c0_1) ∧ w18.cell? ⟨gb334, 2, none⟩ = some (.string a0_2) ∧ w18.cell? ⟨gb334, 3, none⟩ = some (.string a0_3) ∧ w18.cell? ⟨gb334, 4, none⟩ = some (.slice A0_4 l0_4.length c0_4) ∧ w18.cell? ⟨gb334, 5, none⟩ = some (.slice A0_5 l0_5.length c0_5) ∧ w18.cell? ⟨gb334, 6, none⟩ = some (.slice A0_6 l0_6.length c0_6) ∧ w18.cell? ⟨gb334, 7, none⟩ = some (.string a0_7) := hS_
   obtain ⟨Ao19, co19, eo19⟩ := Kd.R_slice HO348.out
   (first | subst eo19 | (injection eo19 with f1_ f2_ f3_; have f4_ := f1_.symm; have f5_ := f3_.symm; clear f1_ f2_ f3_; subst f4_; subst f5_))
   obtain ⟨Ao20, co20, eo20⟩ := Kd.R_slice HO345.out
   (first | subst eo20 | (injection eo20 with f1_ f2_ f3_; have f4_ := f1_.symm; have f5_ := f3_.symm; clear f1_ f2_ f3_; subst f4_; subst f5_))
   obtain ⟨Ao21, co21, eo21⟩ := Kd.R_slice HO342.out
   (first | subst eo21 | (injection eo21 with f1_ f2_ f3_; have f4_ := f1_.symm; have f5_ := f3_.symm; clear f1_ f2_ f3_; subst f4_; subst f5_))
   refine norm_ (a' := ?_) ?_ ?_
   rotate_left
   ·simp only [putAll, Act.put, sA_, sB_, sC_]
    rfl
   refine one_ (i := 22) (N := some 3) #[true, true, true, true, true, true, true, true, true, true, true, true, true, true, true, true, true, true, true, true, true, true, true, false] rfl rfl (one_of HT_.out (by kernel_rfl)) (by decide) (fun K hK => ?_)
   refine box_step ?hg (N := 3) ?hd (cs := #[.string ⟨#[]⟩, .slice none 0 0, .string ⟨#[]⟩, .string ⟨#[]⟩, .slice none 0 0, .slice none 0 0, .slice none 0 0, .string ⟨#[]⟩]) (t := 28) ?hr ?_; (case hd => rfl); (case hg => rfl); (case hr => first | (go_simp; done) | (go_simp; rfl))
   intro gb349 hg w22 hbox hb
   have n0_ := M_ (Kd.R_below (by (with_reducible repeat (first | apply rA_ | apply rN_ | apply rD_)); exact HO342.out) hb)
   have n1_ := M_ (Kd.R_below (by (with_reducible repeat (first | apply rA_ | apply rN_ | apply rD_)); exact HO345.out) hb)
   have n2_ := M_ (Kd.R_below (by (with_reducible repeat (first | apply rA_ | apply rN_ | apply rD_)); exact HO348.out) hb)
   have n3_ := M_ (blk_below (g := gb334) (o := .cells #[.string a0_0, .slice A0_1 l0_1.length c0_1, .string a0_2, .string a0_3, .slice A0_4 l0_4.length c0_4, .slice A0_5 l0_5.length c0_5, .slice A0_6 l0_6.length c0_6, .string a0_7] 28 (0, 0)) (by (with_reducible repeat (first | refine bN_ ?_ _ | refine bD_ ?_ | refine bA_ ?_ _)); exact BK334.out) hb)
   have n4_ := M_ (blk_below (g := gb335) (o := .cells #[.string ⟨#[]⟩, .slice none 0 0, .string ⟨#[]⟩, .string ⟨#[]⟩, .slice none 0 0, .slice none 0 0, .slice none 0 0, .string ⟨#[]⟩] 28 (0, 0)) (by (with_reducible repeat (first | refine bN_ ?_ _ | refine bD_ ?_ | refine bA_ ?_ _)); exact BK335.out) hb)
   have n5_ := M_ (wT_ (by repeat (first | (with_reducible first | exact HB.out | apply wA_ | apply wN_ | apply wD_ | refine wS_ ?_ GE334.out | refine wS_ ?_ GE335.out) | exact HB.out)) hb)
   have n6_ := M_ (hbox)
   have n7_ := M_ ((by rw [hg]; exact (wZ_ (by repeat (first | (with_reducible first | exact HB.out | apply wA_ | apply wN_ | apply wD_ | refine wS_ ?_ GE334.out | refine wS_ ?_ GE335.out) | exact HB.out))) : w.heap.size ≤ gb349))
   have n8_ := M_ ((by rw [hg]; exact (wZ_ (by repeat (first | (with_reducible first | exact HB.out | apply wA_ | apply wN_ | apply wD_ | refine wS_ ?_ GE334.out | refine wS_ ?_ GE335.out) | exact HB.out))) : w.heap.size ≤ gb349))
   have n9_ := M_ ((by rw [hg]; exact Nat.ne_of_lt (blk_lt (g := gb334) (o := .cells #[.string a0_0, .slice A0_1 l0_1.length c0_1, .string a0_2, .string a0_3, .slice A0_4 l0_4.length c0_4, .slice A0_5 l0_5.length c0_5, .slice A0_6 l0_6.length c0_6, .string a0_7] 28 (0, 0)) (by (with_reducible repeat (first | refine bN_ ?_ _ | refine bD_ ?_ | refine bA_ ?_ _)); exact BK334.out)) : gb334 ≠ gb349))
   have n10_ := M_ ((by rw [hg]; exact Nat.ne_of_gt (blk_lt (g := gb334) (o := .cells #[.string a0_0, .slice A0_1 l0_1.length c0_1, .string a0_2, .string a0_3, .slice A0_4 l0_4.length c0_4, .slice A0_5 l0_5.length c0_5, .slice A0_6 l0_6.length c0_6, .string a0_7] 28 (0, 0)) (by (with_reducible repeat (first | refine bN_ ?_ _ | refine bD_ ?_ | refine bA_ ?_ _)); exact BK334.out)) : gb349 ≠ gb334))
   have n11_ := M_ ((by rw [hg]; exact Nat.ne_of_lt (blk_lt (g := gb335) (o := .cells #[.string ⟨#[]⟩, .slice none 0 0, .string ⟨#[]⟩, .string ⟨#[]⟩, .slice none 0 0, .slice none 0 0, .slice none 0 0, .string ⟨#[]⟩] 28 (0, 0)) (by (with_reducible repeat (first | refine bN_ ?_ _ | refine bD_ ?_ | refine bA_ ?_ _)); exact BK335.out)) : gb335 ≠ gb349))
   have n12_ := M_ ((by rw [hg]; exact Nat.ne_of_gt (blk_lt (g := gb335) (o := .cells #[.string ⟨#[]⟩, .slice none 0 0, .string ⟨#[]⟩, .string ⟨#[]⟩, .slice none 0 0, .slice none 0 0, .slice none 0 0, .string ⟨#[]⟩] 28 (0, 0)) (by (with_reducible repeat (first | refine bN_ ?_ _ | refine bD_ ?_ | refine bA_ ?_ _)); exact BK335.out)) : gb349 ≠ gb335))
   clear HO342 HO345 HO348 BK334 BK335 HB
   have HO342 := n0_; have HO345 := n1_; have HO348 := n2_; have BK334 := n3_; have BK335 := n4_; have HB := n5_; have BK349 := n6_; have GW349 := n7_; have GE349 := n8_; have NB334_349 := n9_; have NB349_334 := n10_; have NB335_349 := n11_; have NB349_335 := n12_
   clear n0_ n1_ n2_ n3_ n4_ n5_ n6_ n7_ n8_ n9_ n10_ n11_ n12_ hb hbox hg
   refine hK.out _ _ ⟨(bC_ BK334.out 0).trans rfl, (bC_ BK334.out 1).trans rfl, (bC_ BK334.out 2).trans rfl, (bC_ BK334.out 3).trans rfl, (bC_ BK334.out 4).trans rfl, (bC_ BK334.out 5).trans rfl, (bC_ BK334.out 6).trans rfl, (bC_ BK334.out 7).trans rfl⟩ (fun hHeld => ?_)
   clear hK K
   refine norm_ (a' := ?_) ?_ ?_
   rotate_left
   ·show Act.put _ (some 3) _ = _
    simp only [Act.put, sA_, sB_, sC_, i64_w, i32_w]
    rfl
   exact norm_ (by first | (simp only [putAll, Act.put, sA_, sB_, sC_]; done) | (simp only [putAll, Act.put, sA_, sB_, sC_]; rfl)) (hJ2_5_8_11_14_17_20_22 (.slice Ao21 t340.length co21, .slice Ao20 t343.length co20, .slice Ao19 t346.length co19, gb349) _ ⟨hHeld, (by (with_reducible repeat (first | apply rA_ | apply rN_ | apply rD_)); exact HO342.out), (by (with_reducible repeat (first | apply rA_ | apply rN_ | apply rD_)); exact HO345.out), (by (with_reducible repeat (first | apply rA_ | apply rN_ | apply rD_)); exact HO348.out), (by (with_reducible repeat (first | refine bN_ ?_ _ | refine bD_ ?_ | refine bA_ ?_ _)); exact BK334.out), (by (with_reducible repeat (first | refine bN_ ?_ _ | refine bD_ ?_ | refine bA_ ?_ _)); exact BK335.out), (by (with_reducible repeat (first | refine bN_ ?_ _ | refine bD_ ?_ | refine bA_ ?_ _)); exact BK349.out), GW349.out, GE349.out, NB334_349.out, NB349_334.out, NB335_349.out, NB349_335.out, (by repeat (first | (with_reducible first | exact HB.out | apply wA_ | apply wN_ | apply wD_ | refine wS_ ?_ GE334.out | refine wS_ ?_ GE335.out | refine wS_ ?_ GE349.out) | exact HB.out))⟩)
 rintro ⟨v341, v344, v347, gb349⟩ w19 ⟨hS_, h0_, h1_, h2_, h3_, h4_, h5_, h6_, h7_, h8_, h9_, h10_, h11_, h12_⟩
 have n0_ : Aside0 (Kd.R Kd.string 9 w19 w.heap.size (fun k_ => some k_ ≠ (v344 : Value).ownBlock ∧ some k_ ≠ (v347 : Value).ownBlock) v341 t340) := ⟨h0_⟩
 have n1_ : Aside0 (Kd.R Kd.string 9 w19 w.heap.size (fun k_ => some k_ ≠ (v341 : Value).ownBlock ∧ some k_ ≠ (v347 : Value).ownBlock) v344 t343) := ⟨h1_⟩
 have n2_ : Aside0 (Kd.R Kd.string 9 w19 w.heap.size (fun k_ => some k_ ≠ (v341 : Value).ownBlock ∧ some k_ ≠ (v344 : Value).ownBlock) v347 t346) := ⟨h2_⟩
 have n3_ : Aside0 (w19.heap[gb334]? = some (.cells #[.string a0_0, .slice A0_1 l0_1.length c0_1, .string a0_2, .string a0_3, .slice A0_4 l0_4.length c0_4, .slice A0_5 l0_5.length c0_5, .slice A0_6 l0_6.length c0_6, .string a0_7] 28 (0, 0))) := ⟨h3_⟩
 have n4_ : Aside0 (w19.heap[gb335]? = some (.cells #[.string ⟨#[]⟩, .slice none 0 0, .string ⟨#[]⟩, .string ⟨#[]⟩, .slice none 0 0, .slice none 0 0, .slice none 0 0, .string ⟨#[]⟩] 28 (0, 0))) := ⟨h4_⟩
 have n5_ : Aside0 (w19.heap[gb349]? = some (.cells #[.string ⟨#[]⟩, .slice none 0 0, .string ⟨#[]⟩, .string ⟨#[]⟩, .slice none 0 0, .slice none 0 0, .slice none 0 0, .string ⟨#[]⟩] 28 (0, 0))) := ⟨h5_⟩
 have n6_ : Aside0 (w.heap.size ≤ gb349) := ⟨h6_⟩
 have n7_ : Aside0 (w.heap.size ≤ gb349) := ⟨h7_⟩
 have n8_ : Aside0 (gb334 ≠ gb349) := ⟨h8_⟩
 have n9_ : Aside0 (gb349 ≠ gb334) := ⟨h9_⟩
 have n10_ : Aside0 (gb335 ≠ gb349) := ⟨h10_⟩
 have n11_ : Aside0 (gb349 ≠ gb335) := ⟨h11_⟩
 have n12_ : Aside0 (Below w.heap.size w w19) := ⟨h12_⟩
 clear BK334 BK335 HB h0_ h1_ h2_ h3_ h4_ h5_ h6_ h7_ h8_ h9_ h10_ h11_ h12_
 have HO342 := n0_; have HO345 := n1_; have HO348 := n2_; have BK334 := n3_; have BK335 := n4_; have BK349 := n5_; have GW349 := n6_; have GE349 := n7_; have NB334_349 := n8_; have NB349_334 := n9_; have NB335_349 := n10_; have NB349_335 := n11_; have HB := n12_
 clear n0_ n1_ n2_ n3_ n4_ n5_ n6_ n7_ n8_ n9_ n10_ n11_ n12_
 have hHeld : w19.cell? ⟨gb334, 0, none⟩ = some (.string a0_0) ∧ w19.cell? ⟨gb334, 1, none⟩ = some (.slice A0_1 l0_1.length c0_1) ∧ w19.cell? ⟨gb334, 2, none⟩ = some (.string a0_2) ∧ w19.cell? ⟨gb334, 3, none⟩ = some (.string a0_3) ∧ w19.cell? ⟨gb334, 4, none⟩ = some (.slice A0_4 l0_4.length c0_4) ∧ w19.cell? ⟨gb334, 5, none⟩ = some (.slice A0_5 l0_5.length c0_5) ∧ w19.cell? ⟨gb334, 6, none⟩ = some (.slice A0_6 l0_6.length c0_6) ∧ w19.cell? ⟨gb334, 7, none⟩ = some (.string a0_7) := hS_
 obtain ⟨Ao20, co20, eo20⟩ := Kd.R_slice HO348.out
 (first | subst eo20 | (injection eo20 with f1_ f2_ f3_; have f4_ := f1_.symm; have f5_ := f3_.symm; clear f1_ f2_ f3_; subst f4_; subst f5_))
 obtain ⟨Ao21, co21, eo21⟩ := Kd.R_slice HO345.out
 (first | subst eo21 | (injection eo21 with f1_ f2_ f3_; have f4_ := f1_.symm; have f5_ := f3_.symm; clear f1_ f2_ f3_; subst f4_; subst f5_))
 obtain ⟨Ao22, co22, eo22⟩ := Kd.R_slice HO342.out
 (first | subst eo22 | (injection eo22 with f1_ f2_ f3_; have f4_ := f1_.symm; have f5_ := f3_.symm; clear f1_ f2_ f3_; subst f4_; subst f5_))
 refine norm_ (a' := ?_) ?_ ?_
 rotate_left
 ·simp only [putAll, Act.put, sA_, sB_, sC_]
  rfl
 refine one_ (i := 23) (N := none) #[true, true, true, true, true, true, true, true, true, true, true, true, true, true, true, true, true, true, true, true, true, true, true, true] rfl rfl (one_of HT_.out (by kernel_rfl)) (by decide) (fun K hK => ?_)
 have hs23 : w19.cell? ⟨gb349, 0, none⟩ = some (.string ⟨#[]⟩) := (bC_ BK349.out 0).trans rfl
 have hfs23 := bF_ BK349.out 0
 have hns23_0 := NB334_349.out
 have hns23_1 := NB335_349.out
 have hms23_0 := NB349_334.out
 have hms23_1 := NB349_335.out
 have hs24 : w19.cell? ⟨gb349, 1, none⟩ = some (.slice none 0 0) := (bC_ BK349.out 1).trans rfl
 have hfs24 := bF_ BK349.out 1
 have hns24_0 := NB334_349.out
 have hns24_1 := NB335_349.out
 have hms24_0 := NB349_334.out
 have hms24_1 := NB349_335.out
 have hs25 : w19.cell? ⟨gb349, 2, none⟩ = some (.string ⟨#[]⟩) := (bC_ BK349.out 2).trans rfl
 have hfs25 := bF_ BK349.out 2
 have hns25_0 := NB334_349.out
 have hns25_1 := NB335_349.out
 have hms25_0 := NB349_334.out
 have hms25_1 := NB349_335.out
 have hs26 : w19.cell? ⟨gb349, 3, none⟩ = some (.string ⟨#[]⟩) := (bC_ BK349.out 3).trans rfl
 have hfs26 := bF_ BK349.out 3
 have hns26_0 := NB334_349.out
 have hns26_1 := NB335_349.out
 have hms26_0 := NB349_334.out
 have hms26_1 := NB349_335.out
 have hs27 : w19.cell? ⟨gb349, 4, none⟩ = some (.slice none 0 0) := (bC_ BK349.out 4).trans rfl
 have hfs27 := bF_ BK349.out 4
 have hns27_0 := NB334_349.out
 have hns27_1 := NB335_349.out
 have hms27_0 := NB349_334.out
 have hms27_1 := NB349_335.out
 have hs28 : w19.cell? ⟨gb349, 5, none⟩ = some (.slice none 0 0) := (bC_ BK349.out 5).trans rfl
 have hfs28 := bF_ BK349.out 5
 have hns28_0 := NB334_349.out
 have hns28_1 := NB335_349.out
 have hms28_0 := NB349_334.out
 have hms28_1 := NB349_335.out
 have hs29 : w19.cell? ⟨gb349, 6, none⟩ = some (.slice none 0 0) := (bC_ BK349.out 6).trans rfl
 have hfs29 := bF_ BK349.out 6
 have hns29_0 := NB334_349.out
 have hns29_1 := NB335_349.out
 have hms29_0 := NB349_334.out
 have hms29_1 := NB349_335.out
 have hs30 : w19.cell? ⟨gb349, 7, none⟩ = some (.string ⟨#[]⟩) := (bC_ BK349.out 7).trans rfl
 have hfs30 := bF_ BK349.out 7
 have hns30_0 := NB334_349.out
 have hns30_1 := NB335_349.out
 have hms30_0 := NB349_334.out
 have hms30_1 := NB349_335.out
 refine skip_ (w1 := ?_) (by rfl) rfl ?_ ?_
 rotate_left
 ·go_simp
  rfl
 refine hK.out _ _ ⟨((cell_far (p := ⟨gb349, _, none⟩) NB334_349.out _).trans (((cell_far (p := ⟨gb349, _, none⟩) NB334_349.out _).trans (((cell_far (p := ⟨gb349, _, none⟩) NB334_349.out _).trans (((cell_far (p := ⟨gb349, _, none⟩) NB334_349.out _).trans (((cell_far (p := ⟨gb349, _, none⟩) NB334_349.out _).trans (((cell_far (p := ⟨gb349, _, none⟩) NB334_349.out _).trans (((cell_far (p := ⟨gb349, _, none⟩) NB334_349.out _).trans (((cell_far (p := ⟨gb349, _, none⟩) NB334_349.out _).trans (hHeld.1)))))))))))))))), ((cell_far (p := ⟨gb349, _, none⟩) NB334_349.out _).trans (((cell_far (p := ⟨gb349, _, none⟩) NB334_349.out _).trans (((cell_far (p := ⟨gb349, _, none⟩) NB334_349.out _).trans (((cell_far (p := ⟨gb349, _, none⟩) NB334_349.out _).trans (((cell_far (p := ⟨gb349, _, none⟩) NB334_349.out _).trans (((cell_far (p := ⟨gb349, _, none⟩) NB334_349.out _).trans (((cell_far (p := ⟨gb349, _, none⟩) NB334_349.out _).trans (((cell_far (p := ⟨gb349, _, none⟩) NB334_349.out _).trans (hHeld.2.1)))))))))))))))), ((cell_far (p := ⟨gb349, _, none⟩) NB334_349.out _).trans (((cell_far (p := ⟨gb349, _, none⟩) NB334_349.out _).trans (((cell_far (p := ⟨gb349, _, none⟩) NB334_349.out _).trans (((cell_far (p := ⟨gb349, _, none⟩) NB334_349.out _).trans (((cell_far (p := ⟨gb349, _, none⟩) NB334_349.out _).trans (((cell_far (p := ⟨gb349, _, none⟩) NB334_349.out _).trans (((cell_far (p := ⟨gb349, _, none⟩) NB334_349.out _).trans (((cell_far (p := ⟨gb349, _, none⟩) NB334_349.out _).trans (hHeld.2.2.1)))))))))))))))), ((cell_far (p := ⟨gb349, _, none⟩) NB334_349.out _).trans (((cell_far (p := ⟨gb349, _, none⟩) NB334_349.out _).trans (((cell_far (p := ⟨gb349, _, none⟩) NB334_349.out _).trans (((cell_far (p := ⟨gb349, _, none⟩) NB334_349.out _).trans (((cell_far (p := ⟨gb349, _, none⟩) NB334_349.out _).trans (((cell_far (p := ⟨gb349, _, none⟩) NB334_349.out _).trans (((cell_far (p := ⟨gb349, _, none⟩) NB334_349.out _).trans (((cell_far (p := ⟨gb349, _, none⟩) NB334_349.out _).trans (hHeld.2.2.2.1)))))))))))))))), ((cell_far (p := ⟨gb349, _, none⟩) NB334_349.out _).trans (((cell_far (p := ⟨gb349, _, none⟩) NB334_349.out _).trans (((cell_far (p := ⟨gb349, _, none⟩) NB334_349.out _).trans (((cell_far (p := ⟨gb349, _, none⟩) NB334_349.out _).trans (((cell_far (p := ⟨gb349, _, none⟩) NB334_349.out _).trans (((cell_far (p := ⟨gb349, _, none⟩) NB334_349.out _).trans (((cell_far (p := ⟨gb349, _, none⟩) NB334_349.out _).trans (((cell_far (p := ⟨gb349, _, none⟩) NB334_349.out _).trans (hHeld.2.2.2.2.1)))))))))))))))), ((cell_far (p := ⟨gb349, _, none⟩) NB334_349.out _).trans (((cell_far (p := ⟨gb349, _, none⟩) NB334_349.out _).trans (((cell_far (p := ⟨gb349, _, none⟩) NB334_349.out _).trans (((cell_far (p := ⟨gb349, _, none⟩) NB334_349.out _).trans (((cell_far (p := ⟨gb349, _, none⟩) NB334_349.out _).trans (((cell_far (p := ⟨gb349, _, none⟩) NB334_349.out _).trans (((cell_far (p := ⟨gb349, _, none⟩) NB334_349.out _).trans (((cell_far (p := ⟨gb349, _, none⟩) NB334_349.out _).trans (hHeld.2.2.2.2.2.1)))))))))))))))), ((cell_far (p := ⟨gb349, _, none⟩) NB334_349.out _).trans (((cell_far (p := ⟨gb349, _, none⟩) NB334_349.out _).trans (((cell_far (p := ⟨gb349, _, none⟩) NB334_349.out _).trans (((cell_far (p := ⟨gb349, _, none⟩) NB334_349.out _).trans (((cell_far (p := ⟨gb349, _, none⟩) NB334_349.out _).trans (((cell_far (p := ⟨gb349, _, none⟩) NB334_349.out _).trans (((cell_far (p := ⟨gb349, _, none⟩) NB334_349.out _).trans (((cell_far (p := ⟨gb349, _, none⟩) NB334_349.out _).trans (hHeld.2.2.2.2.2.2.1)))))))))))))))), ((cell_far (p := ⟨gb349, _, none⟩) NB334_349.out _).trans (((cell_far (p := ⟨gb349, _, none⟩) NB334_349.out _).trans (((cell_far (p := ⟨gb349, _, none⟩) NB334_349.out _).trans (((cell_far (p := ⟨gb349, _, none⟩) NB334_349.out _).trans (((cell_far (p := ⟨gb349, _, none⟩) NB334_349.out _).trans (((cell_far (p := ⟨gb349, _, none⟩) NB334_349.out _).trans (((cell_far (p := ⟨gb349, _, none⟩) NB334_349.out _).trans (((cell_far (p := ⟨gb349, _, none⟩) NB334_349.out _).trans (hHeld.2.2.2.2.2.2.2))))))))))))))))⟩ (fun hHeld => ?_)
 clear hK K
 refine done_ (done_of HT_.out (by kernel_rfl)) ?_
 try go_wp2
 go_loopg [4] k (fun kq v4 w' => ∃ (x4_1 : Int) (x350005_1 : List (S44)) (u350005 : Value), v4 = .int .i64 x4_1 ∧ Aside0 (isoglosslaw06_few.l0 kq x4_1 a0_0 l0_1 a0_2 a0_3 l0_4 l0_5 l0_6 a0_7 t336 t340 t337 t338 t343 x350005_1 t346 t339 = some (r1, r2, r3, r4, r5, r6, r7, r8)) ∧ Aside0 (kq ≤ k) ∧ Aside0 (Kd.R Kd.string 9 w' w.heap.size (fun k_ => some k_ ≠ ((.slice Ao21 t343.length co21) : Value).ownBlock ∧ some k_ ≠ ((.slice Ao20 t346.length co20) : Value).ownBlock) (.slice Ao22 t340.length co22) t340) ∧ Aside0 (Kd.R Kd.string 9 w' w.heap.size (fun k_ => some k_ ≠ ((.slice Ao22 t340.length co22) : Value).ownBlock ∧ some k_ ≠ ((.slice Ao20 t346.length co20) : Value).ownBlock) (.slice Ao21 t343.length co21) t343) ∧ Aside0 (Kd.S k44 44 w' w.heap.size (fun k_ => some k_ ≠ ((.slice Ao22 t340.length co22) : Value).ownBlock ∧ some k_ ≠ ((.slice Ao21 t343.length co21) : Value).ownBlock ∧ some k_ ≠ ((.slice Ao20 t346.length co20) : Value).ownBlock) u350005 x350005_1) ∧ Aside0 (Kd.R Kd.string 9 w' w.heap.size (fun k_ => some k_ ≠ ((.slice Ao22 t340.length co22) : Value).ownBlock ∧ some k_ ≠ ((.slice Ao21 t343.length co21) : Value).ownBlock) (.slice Ao20 t346.length co20) t346) ∧ Aside0 (w'.heap[gb334]? = some (.cells #[.string a0_0, (.slice A0_1 l0_1.length c0_1), .string a0_2, .string a0_3, (.slice A0_4 l0_4.length c0_4), (.slice A0_5 l0_5.length c0_5), (.slice A0_6 l0_6.length c0_6), .string a0_7] 28 (0, 0))) ∧ Aside0 (w'.heap[gb335]? = some (.cells #[.string ⟨#[]⟩, (.slice none 0 0), .string ⟨#[]⟩, .string ⟨#[]⟩, (.slice none 0 0), (.slice none 0 0), (.slice none 0 0), .string ⟨#[]⟩] 28 (0, 0))) ∧ Aside0 (w'.heap[gb349]? = some (.cells #[.string t336, (.slice Ao22 t340.length co22), .string t337, .string t338, (.slice Ao21 t343.length co21), u350005, (.slice Ao20 t346.length co20), .string t339] 28 (0, 0))) ∧ Aside0 (Below w.heap.size w w'))
 case atStart => exact ⟨(0), (([] : List (S44))), (.slice none 0 0), (by first | rfl | (simp; done) | (simp [*]; done)), H', ⟨Nat.le_refl _⟩, ⟨by (with_reducible repeat (first | apply rA_ | apply rN_ | apply rD_)); exact rM_ (Kd.R_far (p := ⟨gb349, 7, none⟩) (Kd.R_far (p := ⟨gb349, 6, none⟩) (Kd.R_far (p := ⟨gb349, 5, none⟩) (Kd.R_far (p := ⟨gb349, 4, none⟩) (Kd.R_far (p := ⟨gb349, 3, none⟩) (Kd.R_far (p := ⟨gb349, 2, none⟩) (Kd.R_far (p := ⟨gb349, 1, none⟩) (Kd.R_far (p := ⟨gb349, 0, none⟩) (Kd.R_types HO342.out BK349.out (by decide)) (fun _ hk => hk.2) (.string t336)) (fun _ hk => hk.2) (.slice Ao22 t340.length co22)) (fun _ hk => hk.2) (.string t337)) (fun _ hk => hk.2) (.string t338)) (fun _ hk => hk.2) (.slice Ao21 t343.length co21)) (fun _ hk => hk.2) (.slice none 0 0)) (fun _ hk => hk.2) (.slice Ao20 t346.length co20)) (fun _ hk => hk.2) (.string t339)) (fun _ hk => ⟨hk.1.1, hk.1.2⟩)⟩, ⟨by (with_reducible repeat (first | apply rA_ | apply rN_ | apply rD_)); exact rM_ (Kd.R_far (p := ⟨gb349, 7, none⟩) (Kd.R_far (p := ⟨gb349, 6, none⟩) (Kd.R_far (p := ⟨gb349, 5, none⟩) (Kd.R_far (p := ⟨gb349, 4, none⟩) (Kd.R_far (p := ⟨gb349, 3, none⟩) (Kd.R_far (p := ⟨gb349, 2, none⟩) (Kd.R_far (p := ⟨gb349, 1, none⟩) (Kd.R_far (p := ⟨gb349, 0, none⟩) (Kd.R_types HO345.out BK349.out (by decide)) (fun _ hk => hk.2) (.string t336)) (fun _ hk => hk.2) (.slice Ao22 t340.length co22)) (fun _ hk => hk.2) (.string t337)) (fun _ hk => hk.2) (.string t338)) (fun _ hk => hk.2) (.slice Ao21 t343.length co21)) (fun _ hk => hk.2) (.slice none 0 0)) (fun _ hk => hk.2) (.slice Ao20 t346.length co20)) (fun _ hk => hk.2) (.string t339)) (fun _ hk => ⟨hk.1.1, hk.1.2⟩)⟩, ⟨by first | exact Kd.S_nil _ _ _ _ _ | exact Kd.N_nil _ _ _ _ _ | exact Kd.V_nil _ _ _ _ _ | exact Kd.Q_nil _ _ _ _ _ | exact Kd.R_nil _ _ _ _ _⟩, ⟨by (with_reducible repeat (first | apply rA_ | apply rN_ | apply rD_)); exact rM_ (Kd.R_far (p := ⟨gb349, 7, none⟩) (Kd.R_far (p := ⟨gb349, 6, none⟩) (Kd.R_far (p := ⟨gb349, 5, none⟩) (Kd.R_far (p := ⟨gb349, 4, none⟩) (Kd.R_far (p := ⟨gb349, 3, none⟩) (Kd.R_far (p := ⟨gb349, 2, none⟩) (Kd.R_far (p := ⟨gb349, 1, none⟩) (Kd.R_far (p := ⟨gb349, 0, none⟩) (Kd.R_types HO348.out BK349.out (by decide)) (fun _ hk => hk.2) (.string t336)) (fun _ hk => hk.2) (.slice Ao22 t340.length co22)) (fun _ hk => hk.2) (.string t337)) (fun _ hk => hk.2) (.string t338)) (fun _ hk => hk.2) (.slice Ao21 t343.length co21)) (fun _ hk => hk.2) (.slice none 0 0)) (fun _ hk => hk.2) (.slice Ao20 t346.length co20)) (fun _ hk => hk.2) (.string t339)) (fun _ hk => ⟨hk.1.1, hk.1.2⟩)⟩, ⟨by (with_reducible repeat (first | refine bN_ ?_ _ | refine bD_ ?_ | refine bA_ ?_ _)); refine blk_far ?_ NB334_349.out _; (with_reducible repeat (first | refine bN_ ?_ _ | refine bD_ ?_ | refine bA_ ?_ _)); refine blk_far ?_ NB334_349.out _; (with_reducible repeat (first | refine bN_ ?_ _ | refine bD_ ?_ | refine bA_ ?_ _)); refine blk_far ?_ NB334_349.out _; (with_reducible repeat (first | refine bN_ ?_ _ | refine bD_ ?_ | refine bA_ ?_ _)); refine blk_far ?_ NB334_349.out _; (with_reducible repeat (first | refine bN_ ?_ _ | refine bD_ ?_ | refine bA_ ?_ _)); refine blk_far ?_ NB334_349.out _; (with_reducible repeat (first | refine bN_ ?_ _ | refine bD_ ?_ | refine bA_ ?_ _)); refine blk_far ?_ NB334_349.out _; (with_reducible repeat (first | refine bN_ ?_ _ | refine bD_ ?_ | refine bA_ ?_ _)); refine blk_far ?_ NB334_349.out _; (with_reducible repeat (first | refine bN_ ?_ _ | refine bD_ ?_ | refine bA_ ?_ _)); refine blk_far ?_ NB334_349.out _; (with_reducible repeat (first | refine bN_ ?_ _ | refine bD_ ?_ | refine bA_ ?_ _)); exact BK334.out⟩, ⟨by (with_reducible repeat (first | refine bN_ ?_ _ | refine bD_ ?_ | refine bA_ ?_ _)); refine blk_far ?_ NB335_349.out _; (with_reducible repeat (first | refine bN_ ?_ _ | refine bD_ ?_ | refine bA_ ?_ _)); refine blk_far ?_ NB335_349.out _; (with_reducible repeat (first | refine bN_ ?_ _ | refine bD_ ?_ | refine bA_ ?_ _)); refine blk_far ?_ NB335_349.out _; (with_reducible repeat (first | refine bN_ ?_ _ | refine bD_ ?_ | refine bA_ ?_ _)); refine blk_far ?_ NB335_349.out _; (with_reducible repeat (first | refine bN_ ?_ _ | refine bD_ ?_ | refine bA_ ?_ _)); refine blk_far ?_ NB335_349.out _; (with_reducible repeat (first | refine bN_ ?_ _ | refine bD_ ?_ | refine bA_ ?_ _)); refine blk_far ?_ NB335_349.out _; (with_reducible repeat (first | refine bN_ ?_ _ | refine bD_ ?_ | refine bA_ ?_ _)); refine blk_far ?_ NB335_349.out _; (with_reducible repeat (first | refine bN_ ?_ _ | refine bD_ ?_ | refine bA_ ?_ _)); refine blk_far ?_ NB335_349.out _; (with_reducible repeat (first | refine bN_ ?_ _ | refine bD_ ?_ | refine bA_ ?_ _)); exact BK335.out⟩, ⟨by (with_reducible repeat (first | refine bN_ ?_ _ | refine bD_ ?_ | refine bA_ ?_ _)); refine blk_put (cs := #[.string t336, .slice Ao22 t340.length co22, .string t337, .string t338, .slice Ao21 t343.length co21, .slice none 0 0, .slice Ao20 t346.length co20, .string ⟨#[]⟩]) ?_ 7 _ rfl; (with_reducible repeat (first | refine bN_ ?_ _ | refine bD_ ?_ | refine bA_ ?_ _)); refine blk_put (cs := #[.string t336, .slice Ao22 t340.length co22, .string t337, .string t338, .slice Ao21 t343.length co21, .slice none 0 0, .slice none 0 0, .string ⟨#[]⟩]) ?_ 6 _ rfl; (with_reducible repeat (first | refine bN_ ?_ _ | refine bD_ ?_ | refine bA_ ?_ _)); refine blk_put (cs := #[.string t336, .slice Ao22 t340.length co22, .string t337, .string t338, .slice Ao21 t343.length co21, .slice none 0 0, .slice none 0 0, .string ⟨#[]⟩]) ?_ 5 _ rfl; (with_reducible repeat (first | refine bN_ ?_ _ | refine bD_ ?_ | refine bA_ ?_ _)); refine blk_put (cs := #[.string t336, .slice Ao22 t340.length co22, .string t337, .string t338, .slice none 0 0, .slice none 0 0, .slice none 0 0, .string ⟨#[]⟩]) ?_ 4 _ rfl; (with_reducible repeat (first | refine bN_ ?_ _ | refine bD_ ?_ | refine bA_ ?_ _)); refine blk_put (cs := #[.string t336, .slice Ao22 t340.length co22, .string t337, .string ⟨#[]⟩, .slice none 0 0, .slice none 0 0, .slice none 0 0, .string ⟨#[]⟩]) ?_ 3 _ rfl; (with_reducible repeat (first | refine bN_ ?_ _ | refine bD_ ?_ | refine bA_ ?_ _)); refine blk_put (cs := #[.string t336, .slice Ao22 t340.length co22, .string ⟨#[]⟩, .string ⟨#[]⟩, .slice none 0 0, .slice none 0 0, .slice none 0 0, .string ⟨#[]⟩]) ?_ 2 _ rfl; (with_reducible repeat (first | refine bN_ ?_ _ | refine bD_ ?_ | refine bA_ ?_ _)); refine blk_put (cs := #[.string t336, .slice none 0 0, .string ⟨#[]⟩, .string ⟨#[]⟩, .slice none 0 0, .slice none 0 0, .slice none 0 0, .string ⟨#[]⟩]) ?_ 1 _ rfl; (with_reducible repeat (first | refine bN_ ?_ _ | refine bD_ ?_ | refine bA_ ?_ _)); refine blk_put (cs := #[.string ⟨#[]⟩, .slice none 0 0, .string ⟨#[]⟩, .string ⟨#[]⟩, .slice none 0 0, .slice none 0 0, .slice none 0 0, .string ⟨#[]⟩]) ?_ 0 _ rfl; (with_reducible repeat (first | refine bN_ ?_ _ | refine bD_ ?_ | refine bA_ ?_ _)); exact BK349.out⟩, ⟨by repeat (first | (with_reducible first | exact HB.out | apply wA_ | apply wN_ | apply wD_ | refine wS_ ?_ GE334.out | refine wS_ ?_ GE335.out | refine wS_ ?_ GE349.out) | exact HB.out)⟩⟩
 case round =>
  clear H'
  try clear p2; try clear c3
  obtain ⟨x4_1, x350005_1, u350005, rfl, HA, HK1, HO_350001, HO_350004, HO_350005, HO_350006, BK334, BK335, BK349, HB⟩ := hrel
  cases gk with
  | zero => exact absurd HA.out (by simp [isoglosslaw06_few.l0])
  | succ k1 =>
   have H := HA.out
   clear HA
   simp only [isoglosslaw06_few.l0] at H
   have HC31 := M_ H
   clear H
   go_upto_region 3 with (fail)
   go_cut [35] (fun v35 wc => ∃ (kq : Nat) (x35_30 : Bool), v35 = .bool x35_30 ∧ Aside0 (isoglosslaw06_few.j1 kq x4_1 x35_30 a0_0 l0_1 a0_2 a0_3 l0_4 l0_5 l0_6 a0_7 t336 t340 t337 t338 t343 x350005_1 t346 t339 = some (r1, r2, r3, r4, r5, r6, r7, r8)) ∧ Aside0 (kq ≤ k1) ∧ Aside0 (Kd.R Kd.string 9 wc w.heap.size (fun k_ => some k_ ≠ ((.slice Ao21 t343.length co21) : Value).ownBlock ∧ some k_ ≠ ((.slice Ao20 t346.length co20) : Value).ownBlock) (.slice Ao22 t340.length co22) t340) ∧ Aside0 (Kd.R Kd.string 9 wc w.heap.size (fun k_ => some k_ ≠ ((.slice Ao22 t340.length co22) : Value).ownBlock ∧ some k_ ≠ ((.slice Ao20 t346.length co20) : Value).ownBlock) (.slice Ao21 t343.length co21) t343) ∧ Aside0 (Kd.S k44 44 wc w.heap.size (fun k_ => some k_ ≠ ((.slice Ao22 t340.length co22) : Value).ownBlock ∧ some k_ ≠ ((.slice Ao21 t343.length co21) : Value).ownBlock ∧ some k_ ≠ ((.slice Ao20 t346.length co20) : Value).ownBlock) u350005 x350005_1) ∧ Aside0 (Kd.R Kd.string 9 wc w.heap.size (fun k_ => some k_ ≠ ((.slice Ao22 t340.length co22) : Value).ownBlock ∧ some k_ ≠ ((.slice Ao21 t343.length co21) : Value).ownBlock) (.slice Ao20 t346.length co20) t346) ∧ Aside0 (wc.heap[gb334]? = some (.cells #[.string a0_0, (.slice A0_1 l0_1.length c0_1), .string a0_2, .string a0_3, (.slice A0_4 l0_4.length c0_4), (.slice A0_5 l0_5.length c0_5), (.slice A0_6 l0_6.length c0_6), .string a0_7] 28 (0, 0))) ∧ Aside0 (wc.heap[gb335]? = some (.cells #[.string ⟨#[]⟩, (.slice none 0 0), .string ⟨#[]⟩, .string ⟨#[]⟩, (.slice none 0 0), (.slice none 0 0), (.slice none 0 0), .string ⟨#[]⟩] 28 (0, 0))) ∧ Aside0 (wc.heap[gb349]? = some (.cells #[.string t336, (.slice Ao22 t340.length co22), .string t337, .string t338, (.slice Ao21 t343.length co21), u350005, (.slice Ao20 t346.length co20), .string t339] 28 (0, 0))) ∧ Aside0 (Below w.heap.size w wc))
   case first =>
    have H := HC31.out
    clear HC31
    by_cases c32 : x4_1 < (l0_5.length : Int)
    ·rw [if_pos c32] at H
     have c32b0 : decide (x4_1 < (l0_5.length : Int)) = true := decide_eq_true c32
     clear c32
     (first | rw [c32b0] | (simp only [i64_w, i32_w]; rw [c32b0]) | skip)
     have H' := M_ H
     clear H
     have hnb33 := NB334_335.out
     have hnc33 := NB335_334.out
     have hnb34 := NB334_349.out
     have hnc34 := NB349_334.out
     obtain ⟨hcz35_0, hcz35_1, hcz35_2, hcz35_3, hcz35_4, hcz35_5, hcz35_6, hcz35_7, hfz35_0, hfz35_1, hfz35_2, hfz35_3, hfz35_4, hfz35_5, hfz35_6, hfz35_7⟩ := c8_9 BK334.out
     go_wp2
     go_meet
     case rel => exact ⟨_, (decide (x4_1 < 4)), (by first | rfl | (simp; done) | (simp [*]; done)), H', ⟨by have := HK1.out; first | omega | exact Nat.le_refl _⟩, ⟨by (with_reducible repeat (first | apply rA_ | apply rN_ | apply rD_)); exact HO_350001.out⟩, ⟨by (with_reducible repeat (first | apply rA_ | apply rN_ | apply rD_)); exact HO_350004.out⟩, ⟨by (with_reducible repeat (first | apply tA_ | apply tN_ | apply tD_)); exact HO_350005.out⟩, ⟨by (with_reducible repeat (first | apply rA_ | apply rN_ | apply rD_)); exact HO_350006.out⟩, ⟨by (with_reducible repeat (first | refine bN_ ?_ _ | refine bD_ ?_ | refine bA_ ?_ _)); exact BK334.out⟩, ⟨by (with_reducible repeat (first | refine bN_ ?_ _ | refine bD_ ?_ | refine bA_ ?_ _)); exact BK335.out⟩, ⟨by (with_reducible repeat (first | refine bN_ ?_ _ | refine bD_ ?_ | refine bA_ ?_ _)); exact BK349.out⟩, ⟨by repeat (first | (with_reducible first | exact HB.out | apply wA_ | apply wN_ | apply wD_ | refine wS_ ?_ GE334.out | refine wS_ ?_ GE335.out | refine wS_ ?_ GE349.out) | exact HB.out)⟩⟩
    ·rw [if_neg c32] at H
     have c32b0 : decide (x4_1 < (l0_5.length : Int)) = false := decide_eq_false c32
     clear c32
     (first | rw [c32b0] | (simp only [i64_w, i32_w]; rw [c32b0]) | skip)
     have H' := M_ H
     clear H
     have hnb36 := NB334_335.out
     have hnc36 := NB335_334.out
     have hnb37 := NB334_349.out
     have hnc37 := NB349_334.out
     obtain ⟨hcz38_0, hcz38_1, hcz38_2, hcz38_3, hcz38_4, hcz38_5, hcz38_6, hcz38_7, hfz38_0, hfz38_1, hfz38_2, hfz38_3, hfz38_4, hfz38_5, hfz38_6, hfz38_7⟩ := c8_9 BK334.out
     go_wp2
     go_meet
     case rel => exact ⟨_, (false), (by first | rfl | (simp; done) | (simp [*]; done)), H', ⟨by have := HK1.out; first | omega | exact Nat.le_refl _⟩, ⟨by (with_reducible repeat (first | apply rA_ | apply rN_ | apply rD_)); exact HO_350001.out⟩, ⟨by (with_reducible repeat (first | apply rA_ | apply rN_ | apply rD_)); exact HO_350004.out⟩, ⟨by (with_reducible repeat (first | apply tA_ | apply tN_ | apply tD_)); exact HO_350005.out⟩, ⟨by (with_reducible repeat (first | apply rA_ | apply rN_ | apply rD_)); exact HO_350006.out⟩, ⟨by (with_reducible repeat (first | refine bN_ ?_ _ | refine bD_ ?_ | refine bA_ ?_ _)); exact BK334.out⟩, ⟨by (with_reducible repeat (first | refine bN_ ?_ _ | refine bD_ ?_ | refine bA_ ?_ _)); exact BK335.out⟩, ⟨by (with_reducible repeat (first | refine bN_ ?_ _ | refine bD_ ?_ | refine bA_ ?_ _)); exact BK349.out⟩, ⟨by repeat (first | (with_reducible first | exact HB.out | apply wA_ | apply wN_ | apply wD_ | refine wS_ ?_ GE334.out | refine wS_ ?_ GE335.out | refine wS_ ?_ GE349.out) | exact HB.out)⟩⟩
   case rest =>
    clear HC31
    try clear p2; try clear c3; try clear c32; try clear c32b0; try clear c33; try clear c34; try clear c36; try clear c37; try clear c38
    try clear hcz35_0 hcz35_1 hcz35_2 hcz35_3 hcz35_4 hcz35_5 hcz35_6 hcz35_7; try clear hcz38_0 hcz38_1 hcz38_2 hcz38_3 hcz38_4 hcz38_5 hcz38_6 hcz38_7; try clear hfz35_0 hfz35_1 hfz35_2 hfz35_3 hfz35_4 hfz35_5 hfz35_6 hfz35_7; try clear hfz38_0 hfz38_1 hfz38_2 hfz38_3 hfz38_4 hfz38_5 hfz38_6 hfz38_7
    try clear p2
    obtain ⟨kq, x35_30, rfl, HA, HJ30, HO_350001, HO_350004, HO_350005, HO_350006, BK334, BK335, BK349, HB⟩ := hcut
    cases kq with
    | zero => exact absurd HA.out (by simp [isoglosslaw06_few.j1])
    | succ kj30 =>
     have H := HA.out
     clear HA
     simp only [isoglosslaw06_few.j1] at H
     by_cases c39 : x35_30 = true
     ·subst c39
      have H1 : (if 0 ≤ x4_1 then (if x4_1 < (l0_5.length : Int) then ((isoglosslaw06_short.f ((rd_T44 l0_5 x4_1).f0)).bind fun t351 => ((isoglosslaw06_row.f kj30 ((rd_T44 l0_5 x4_1).f1)).bind fun t353 => (if x350005_1.length < 3518437208883 then (isoglosslaw06_few.l0 kj30 (wrap64 (x4_1 + 1)) a0_0 l0_1 a0_2 a0_3 l0_4 l0_5 l0_6 a0_7 t336 t340 t337 t338 t343 (x350005_1 ++ [(⟨t351, t353⟩ : S44)]) t346 t339) else (none)))) else (none)) else (none)) = some (r1, r2, r3, r4, r5, r6, r7, r8) := by rw [if_pos rfl] at H; exact H
      clear H
      have H := H1
      clear H1
      by_cases c40 : 0 ≤ x4_1
      ·rw [if_pos c40] at H
       have c40b0 : decide (0 ≤ x4_1) = true := decide_eq_true c40
       clear c40
       by_cases c41 : x4_1 < (l0_5.length : Int)
       ·rw [if_pos c41] at H
        have c41b0 : decide (x4_1 < (l0_5.length : Int)) = true := decide_eq_true c41
        clear c41
        replace H := Option.bind_eq_some_iff.mp H
        obtain ⟨t351, A420, H⟩ := H
        replace H : ((isoglosslaw06_row.f kj30 ((rd_T44 l0_5 x4_1).f1)).bind fun t353 => (if x350005_1.length < 3518437208883 then (isoglosslaw06_few.l0 kj30 (wrap64 (x4_1 + 1)) a0_0 l0_1 a0_2 a0_3 l0_4 l0_5 l0_6 a0_7 t336 t340 t337 t338 t343 (x350005_1 ++ [(⟨t351, t353⟩ : S44)]) t346 t339) else (none))) = some (r1, r2, r3, r4, r5, r6, r7, r8) := H
        have A42 := M_ A420
        clear A420
        replace H := Option.bind_eq_some_iff.mp H
        obtain ⟨t353, A430, H⟩ := H
        replace H : (if x350005_1.length < 3518437208883 then (isoglosslaw06_few.l0 kj30 (wrap64 (x4_1 + 1)) a0_0 l0_1 a0_2 a0_3 l0_4 l0_5 l0_6 a0_7 t336 t340 t337 t338 t343 (x350005_1 ++ [(⟨t351, t353⟩ : S44)]) t346 t339) else (none)) = some (r1, r2, r3, r4, r5, r6, r7, r8) := H
        have A43 := M_ A430
        clear A430
        by_cases c44 : x350005_1.length < 3518437208883
        ·rw [if_pos c44] at H
         have LMc44 := M_ c44
         clear c44
         obtain ⟨y356, hy356⟩ : ∃ y_ : List (S44), y_ = (x350005_1 ++ [(⟨t351, t353⟩ : S44)]) := ⟨_, rfl⟩
         replace H : (isoglosslaw06_few.l0 kj30 (wrap64 (x4_1 + 1)) a0_0 l0_1 a0_2 a0_3 l0_4 l0_5 l0_6 a0_7 t336 t340 t337 t338 t343 y356 t346 t339) = some (r1, r2, r3, r4, r5, r6, r7, r8) := by first | (rw [hy356]; with_reducible exact H) | (have H2_ := (Option.bind_some _ _).symm.trans H; rw [hy356]; with_reducible exact H2_) | (have H2_ := (Option.bind_some _ _).symm.trans H; with_reducible exact H2_) | with_reducible exact H | (rw [hy356]; exact H) | exact H
         have Ny356 := M_ hy356
         clear hy356
         have H' := M_ H
         clear H
         try go_wp2
         have n0_ := M_ (rD_ HO_350001.out)
         have n1_ := M_ (rD_ HO_350004.out)
         have n2_ := M_ (tD_ HO_350005.out)
         have n3_ := M_ (rD_ HO_350006.out)
         have n4_ := M_ (bD_ BK334.out)
         have n5_ := M_ (bD_ BK335.out)
         have n6_ := M_ (bD_ BK349.out)
         have n7_ := M_ (wD_ HB.out)
         clear HO_350001 HO_350004 HO_350005 HO_350006 BK334 BK335 BK349 HB
         have HO_350001 := n0_; have HO_350004 := n1_; have HO_350005 := n2_; have HO_350006 := n3_; have BK334 := n4_; have BK335 := n5_; have BK349 := n6_; have HB := n7_
         clear n0_ n1_ n2_ n3_ n4_ n5_ n6_ n7_
         have p350 : 0 ≤ (x4_1 : Int) := of_decide_eq_true (by first | (with_reducible assumption) | assumption)
         have q350 : x4_1 < (l0_5.length : Int) := of_decide_eq_true (by first | (with_reducible assumption) | assumption)
         obtain ⟨ad350, A350_1, c350_1, e350, hx350_0, hx350_1, hl350_1, hi350_1⟩ := at_T44 HR0_5.out x4_1 p350 q350
         have hw350_1 := hx350_1
         have hw350_0 := hx350_0
         cases e350
         replace hx350_0 := (HB.out.cell (World.block_lt_of_cell? w _ hx350_0)).trans hx350_0
         replace hx350_1 := (HB.out.cell (World.block_lt_of_cell? w _ hx350_1)).trans hx350_1
         have HR350_1 := M_ hi350_1
         have HC350_1 := M_ hl350_1
         clear hi350_1 hl350_1
         replace p350 := eq_true p350
         replace q350 := eq_true q350
         have p352 : 0 ≤ (x4_1 : Int) := of_decide_eq_true (by first | (with_reducible assumption) | assumption)
         have q352 : x4_1 < (l0_5.length : Int) := of_decide_eq_true (by first | (with_reducible assumption) | assumption)
         obtain ⟨ad352, A352_1, c352_1, e352, hx352_0, hx352_1, hl352_1, hi352_1⟩ := at_T44 HR0_5.out x4_1 p352 q352
         have hw352_1 := hx352_1
         have hw352_0 := hx352_0
         obtain rfl : ad350 = ad352 := (by injection e352)
         replace hx352_0 := (HB.out.cell (World.block_lt_of_cell? w _ hx352_0)).trans hx352_0
         replace hx352_1 := (HB.out.cell (World.block_lt_of_cell? w _ hx352_1)).trans hx352_1
         have HR352_1 := M_ hi352_1
         have HC352_1 := M_ hl352_1
         clear hi352_1 hl352_1
         replace p352 := eq_true p352
         replace q352 := eq_true q352
         have ea_ := Option.some.inj (hx350_1.symm.trans hx352_1)
         injection ea_ with ea_ en_ ec_
         subst ea_
         subst ec_
         clear en_
         refine start_ (n := 21) (S := fun w' => w'.cell? ⟨gb349, 0, none⟩ = some (.string t336) ∧ w'.cell? ⟨gb349, 1, none⟩ = some (.slice Ao22 t340.length co22) ∧ w'.cell? ⟨gb349, 2, none⟩ = some (.string t337) ∧ w'.cell? ⟨gb349, 3, none⟩ = some (.string t338) ∧ w'.cell? ⟨gb349, 4, none⟩ = some (.slice Ao21 t343.length co21) ∧ w'.cell? ⟨gb349, 5, none⟩ = some (u350005) ∧ w'.cell? ⟨gb349, 6, none⟩ = some (.slice Ao20 t346.length co20) ∧ w'.cell? ⟨gb349, 7, none⟩ = some (.string t339) ∧ w'.cell? ⟨gb334, 0, none⟩ = some (.string a0_0) ∧ w'.cell? ⟨gb334, 1, none⟩ = some (.slice A0_1 l0_1.length c0_1) ∧ w'.cell? ⟨gb334, 2, none⟩ = some (.string a0_2) ∧ w'.cell? ⟨gb334, 3, none⟩ = some (.string a0_3) ∧ w'.cell? ⟨gb334, 4, none⟩ = some (.slice A0_4 l0_4.length c0_4) ∧ w'.cell? ⟨gb334, 5, none⟩ = some (.slice (some ad350) l0_5.length c0_5) ∧ w'.cell? ⟨gb334, 6, none⟩ = some (.slice A0_6 l0_6.length c0_6) ∧ w'.cell? ⟨gb334, 7, none⟩ = some (.string a0_7) ∧ w'.cell? (ad350.add ((x4_1).toNat * 2)) = some (.string ((rd_T44 l0_5 x4_1).f0)) ∧ w'.cell? ⟨(ad350.add ((x4_1).toNat * 2)).block, (ad350.add ((x4_1).toNat * 2)).off + 1, none⟩ = some (.slice A350_1 ((rd_T44 l0_5 x4_1).f1).length c350_1) ∧ w'.cell? (ad350.add ((x4_1).toNat * 2)) = some (.string ((rd_T44 l0_5 x4_1).f0)) ∧ w'.cell? ⟨(ad350.add ((x4_1).toNat * 2)).block, (ad350.add ((x4_1).toNat * 2)).off + 1, none⟩ = some (.slice A350_1 ((rd_T44 l0_5 x4_1).f1).length c350_1)) (ds := [20]) #[false, false, false, false, false, false, false, false, false, false, false, false, false, false, false, false, false, false, false, false, false] (by kernel_rfl) rfl rfl ⟨(bC_ BK349.out 0).trans rfl, (bC_ BK349.out 1).trans rfl, (bC_ BK349.out 2).trans rfl, (bC_ BK349.out 3).trans rfl, (bC_ BK349.out 4).trans rfl, (bC_ BK349.out 5).trans rfl, (bC_ BK349.out 6).trans rfl, (bC_ BK349.out 7).trans rfl, (bC_ BK334.out 0).trans rfl, (bC_ BK334.out 1).trans rfl, (bC_ BK334.out 2).trans rfl, (bC_ BK334.out 3).trans rfl, (bC_ BK334.out 4).trans rfl, (bC_ BK334.out 5).trans rfl, (bC_ BK334.out 6).trans rfl, (bC_ BK334.out 7).trans rfl, ((HB.out.cell (World.block_lt_of_cell? w _ hw350_0)).trans hw350_0), ((HB.out.cell (World.block_lt_of_cell? w _ hw350_1)).trans hw350_1), ((HB.out.cell (World.block_lt_of_cell? w _ hw352_0)).trans hw352_0), ((HB.out.cell (World.block_lt_of_cell? w _ hw352_1)).trans hw352_1)⟩ (fun hHeld => ?_); refine with_tabW isoglosslaw06_few.tab5 isoglosslaw06_few.bits5 (fun HT_ HW_ => ?_)
         generalize wc.drew = w45 at HO_350001 HO_350004 HO_350005 HO_350006 BK334 BK335 BK349 HB HR350_1 HR352_1 hx350_0 hx350_1 hx352_0 hx352_1 hHeld ⊢
         refine pure_ (i := 0) (N := some 38) (v := ?_) (a' := ?_) #[true, false, false, false, false, false, false, false, false, false, false, false, false, false, false, false, false, false, false, false, false] rfl rfl (any_of HT_.out (by kernel_rfl)) (fun _ _ _ h => h) (Or.inl ⟨by rfl, ?_⟩) ?_ ?_
         rotate_left
         ·intro w'
          go_simp
          with_reducible rfl
         rotate_left
         ·simp only [Act.put, sA_, sB_, sC_, i64_w, i32_w]
          rfl
         refine pure_ (i := 2) (N := some 40) (v := ?_) (a' := ?_) #[true, false, true, false, false, false, false, false, false, false, false, false, false, false, false, false, false, false, false, false, false] rfl rfl (any_of HT_.out (by kernel_rfl)) (fun _ _ _ h => h) (Or.inl ⟨by rfl, ?_⟩) ?_ ?_
         rotate_left
         ·intro w'
          go_simp
          with_reducible rfl
         rotate_left
         ·simp only [Act.put, sA_, sB_, sC_, i64_w, i32_w]
          rfl
         refine pure_ (i := 4) (N := some 42) (v := ?_) (a' := ?_) #[true, false, true, false, true, false, false, false, false, false, false, false, false, false, false, false, false, false, false, false, false] rfl rfl (any_of HT_.out (by kernel_rfl)) (fun _ _ _ h => h) (Or.inl ⟨by rfl, ?_⟩) ?_ ?_
         rotate_left
         ·intro w'
          go_simp
          with_reducible rfl
         rotate_left
         ·simp only [Act.put, sA_, sB_, sC_, i64_w, i32_w]
          rfl
         refine pure_ (i := 9) (N := some 47) (v := ?_) (a' := ?_) #[true, false, true, false, true, false, false, false, false, true, false, false, false, false, false, false, false, false, false, false, false] rfl rfl (any_of HT_.out (by kernel_rfl)) (fun _ _ _ h => h) (Or.inl ⟨by rfl, ?_⟩) ?_ ?_
         rotate_left
         ·intro w'
          go_simp
          with_reducible rfl
         rotate_left
         ·simp only [Act.put, sA_, sB_, sC_, i64_w, i32_w]
          rfl
         refine pure_ (i := 11) (N := some 49) (v := ?_) (a' := ?_) #[true, false, true, false, true, false, false, false, false, true, false, true, false, false, false, false, false, false, false, false, false] rfl rfl (any_of HT_.out (by kernel_rfl)) (fun _ _ _ h => h) (Or.inl ⟨by rfl, ?_⟩) ?_ ?_
         rotate_left
         ·intro w'
          go_simp
          with_reducible rfl
         rotate_left
         ·simp only [Act.put, sA_, sB_, sC_, i64_w, i32_w]
          rfl
         refine take_ (i := 1) (N := some 39) (v := ?_) (a' := ?_) #[true, true, true, false, true, false, false, false, false, true, false, true, false, false, false, false, false, false, false, false, false] rfl rfl (take_ofW HT_.out HW_.out (by kernel_rfl)) (fun _ _ _ h => h) (Or.inl ⟨by rfl, ?_⟩) hHeld ?_ ?_
         rotate_left
         ·rintro w' ⟨s0, s1, s2, s3, s4, s5, s6, s7, s8, s9, s10, s11, s12, s13, s14, s15, s16, s17, s18, s19⟩
          go_simp
          with_reducible rfl
         rotate_left
         ·simp only [Act.put, sA_, sB_, sC_, i64_w, i32_w]
          rfl
         refine take_ (i := 3) (N := some 41) (v := ?_) (a' := ?_) #[true, true, true, true, true, false, false, false, false, true, false, true, false, false, false, false, false, false, false, false, false] rfl rfl (take_ofW HT_.out HW_.out (by kernel_rfl)) (fun _ _ _ h => h) (Or.inl ⟨by rfl, ?_⟩) hHeld ?_ ?_
         rotate_left
         ·rintro w' ⟨s0, s1, s2, s3, s4, s5, s6, s7, s8, s9, s10, s11, s12, s13, s14, s15, s16, s17, s18, s19⟩
          go_simp
          with_reducible rfl
         rotate_left
         ·simp only [Act.put, sA_, sB_, sC_, i64_w, i32_w]
          rfl
         refine pure_ (i := 5) (N := some 43) (v := ?_) (a' := ?_) #[true, true, true, true, true, true, false, false, false, true, false, true, false, false, false, false, false, false, false, false, false] rfl rfl (any_of HT_.out (by kernel_rfl)) (fun _ _ _ h => h) (Or.inl ⟨by rfl, ?_⟩) ?_ ?_
         rotate_left
         ·intro w'
          go_simp
          with_reducible rfl
         rotate_left
         ·simp only [Act.put, sA_, sB_, sC_, i64_w, i32_w]
          rfl
         refine pure_ (i := 6) (N := some 44) (v := ?_) (a' := ?_) #[true, true, true, true, true, true, true, false, false, true, false, true, false, false, false, false, false, false, false, false, false] rfl rfl (any_of HT_.out (by kernel_rfl)) (fun _ _ _ h => h) (Or.inl ⟨by rfl, ?_⟩) ?_ ?_
         rotate_left
         ·intro w'
          go_simp
          with_reducible rfl
         rotate_left
         ·simp only [Act.put, sA_, sB_, sC_, i64_w, i32_w]
          rfl
         refine take_ (i := 7) (N := some 45) (v := ?_) (a' := ?_) #[true, true, true, true, true, true, true, true, false, true, false, true, false, false, false, false, false, false, false, false, false] rfl rfl (take_ofW HT_.out HW_.out (by kernel_rfl)) (fun _ _ _ h => h) (Or.inl ⟨by rfl, ?_⟩) hHeld ?_ ?_
         rotate_left
         ·rintro w' ⟨s0, s1, s2, s3, s4, s5, s6, s7, s8, s9, s10, s11, s12, s13, s14, s15, s16, s17, s18, s19⟩
          go_simp
          with_reducible rfl
         rotate_left
         ·simp only [Act.put, sA_, sB_, sC_, i64_w, i32_w]
          rfl
         refine take_ (i := 10) (N := some 48) (v := ?_) (a' := ?_) #[true, true, true, true, true, true, true, true, false, true, true, true, false, false, false, false, false, false, false, false, false] rfl rfl (take_ofW HT_.out HW_.out (by kernel_rfl)) (fun _ _ _ h => h) (Or.inl ⟨by rfl, ?_⟩) hHeld ?_ ?_
         rotate_left
         ·rintro w' ⟨s0, s1, s2, s3, s4, s5, s6, s7, s8, s9, s10, s11, s12, s13, s14, s15, s16, s17, s18, s19⟩
          go_simp
          with_reducible rfl
         rotate_left
         ·simp only [Act.put, sA_, sB_, sC_, i64_w, i32_w]
          rfl
         refine pure_ (i := 12) (N := some 50) (v := ?_) (a' := ?_) #[true, true, true, true, true, true, true, true, false, true, true, true, true, false, false, false, false, false, false, false, false] rfl rfl (any_of HT_.out (by kernel_rfl)) (fun _ _ _ h => h) (Or.inl ⟨by rfl, ?_⟩) ?_ ?_
         rotate_left
         ·intro w'
          go_simp
          with_reducible rfl
         rotate_left
         ·simp only [Act.put, sA_, sB_, sC_, i64_w, i32_w]
          rfl
         refine pure_ (i := 13) (N := some 51) (v := ?_) (a' := ?_) #[true, true, true, true, true, true, true, true, false, true, true, true, true, true, false, false, false, false, false, false, false] rfl rfl (any_of HT_.out (by kernel_rfl)) (fun _ _ _ h => h) (Or.inl ⟨by rfl, ?_⟩) ?_ ?_
         rotate_left
         ·intro w'
          go_simp
          with_reducible rfl
         rotate_left
         ·simp only [Act.put, sA_, sB_, sC_, i64_w, i32_w]
          rfl
         refine take_ (i := 14) (N := some 52) (v := ?_) (a' := ?_) #[true, true, true, true, true, true, true, true, false, true, true, true, true, true, true, false, false, false, false, false, false] rfl rfl (take_ofW HT_.out HW_.out (by kernel_rfl)) (fun _ _ _ h => h) (Or.inl ⟨by rfl, ?_⟩) hHeld ?_ ?_
         rotate_left
         ·rintro w' ⟨s0, s1, s2, s3, s4, s5, s6, s7, s8, s9, s10, s11, s12, s13, s14, s15, s16, s17, s18, s19⟩
          go_simp
          with_reducible rfl
         rotate_left
         ·simp only [Act.put, sA_, sB_, sC_, i64_w, i32_w]
          rfl
         refine one_ (i := 8) (N := some 46) #[true, true, true, true, true, true, true, true, true, true, true, true, true, true, true, false, false, false, false, false, false] rfl rfl (one_of HT_.out (by kernel_rfl)) (by decide) (fun K hK => ?_)
         refine goes_ Try.func14 (by kernel_rfl) rfl #[.string ((rd_T44 l0_5 x4_1).f0)] (by rfl) rfl rfl (by (try simp only [List.map_toArray, List.map_cons, List.map_nil]); first | done | rfl | (simp only [List.length_drop, List.length_take]; rfl)) ?_
         with_reducible refine (isoglosslaw06_short.calls ((rd_T44 l0_5 x4_1).f0) t351 _ A42.out).mono ?_
         rintro e w' ⟨rfl, ⟨nd, rfl⟩⟩
         refine ⟨_, rfl, ?_⟩
         refine hK.out _ _ ⟨(bC_ BK349.out 0).trans rfl, (bC_ BK349.out 1).trans rfl, (bC_ BK349.out 2).trans rfl, (bC_ BK349.out 3).trans rfl, (bC_ BK349.out 4).trans rfl, (bC_ BK349.out 5).trans rfl, (bC_ BK349.out 6).trans rfl, (bC_ BK349.out 7).trans rfl, (bC_ BK334.out 0).trans rfl, (bC_ BK334.out 1).trans rfl, (bC_ BK334.out 2).trans rfl, (bC_ BK334.out 3).trans rfl, (bC_ BK334.out 4).trans rfl, (bC_ BK334.out 5).trans rfl, (bC_ BK334.out 6).trans rfl, (bC_ BK334.out 7).trans rfl, ((HB.out.cell (World.block_lt_of_cell? w _ hw350_0)).trans hw350_0), ((HB.out.cell (World.block_lt_of_cell? w _ hw350_1)).trans hw350_1), ((HB.out.cell (World.block_lt_of_cell? w _ hw352_0)).trans hw352_0), ((HB.out.cell (World.block_lt_of_cell? w _ hw352_1)).trans hw352_1)⟩ (fun hHeld => ?_)
         clear hK K
         refine norm_ (a' := ?_) ?_ ?_
         rotate_left
         ·show Act.put _ (some 46) _ = _
          simp only [Act.put, sA_, sB_, sC_, i64_w, i32_w]
          rfl
         refine one_ (i := 15) (N := some 53) #[true, true, true, true, true, true, true, true, true, true, true, true, true, true, true, true, false, false, false, false, false] rfl rfl (one_of HT_.out (by kernel_rfl)) (by decide) (fun K hK => ?_)
         refine goes_ Try.func38 (by kernel_rfl) rfl #[.slice A350_1 ((rd_T44 l0_5 x4_1).f1).length c350_1] (by rfl) rfl rfl (by (try simp only [List.map_toArray, List.map_cons, List.map_nil]); first | done | rfl | (simp only [List.length_drop, List.length_take]; rfl)) ?_
         with_reducible refine (isoglosslaw06_row.calls kj30 _ _ ((rd_T44 l0_5 x4_1).f1) t353 _ ?side1 ?side2 A43.out).mono ?_
         (case side1 => repeat (first | exact (cB_ HR352_1.out (by repeat (first | (with_reducible first | exact HB.out | apply wA_ | apply wN_ | apply wD_ | refine wS_ ?_ GE334.out | refine wS_ ?_ GE335.out | refine wS_ ?_ GE349.out) | exact HB.out))) | (with_reducible refine cA_ ?_ _) | (with_reducible refine cN_ ?_ _) | (with_reducible refine cD_ ?_)))
         (case side2 => exact HC352_1.out)
         rintro e w46 ⟨v354, rfl, ho0, hb⟩
         refine ⟨_, rfl, ?_⟩
         have n0_ := M_ (rL_ (by (with_reducible repeat (first | apply rA_ | apply rN_ | apply rD_)); exact HO_350001.out) (Kd.R_base ho0) hb)
         have n1_ := M_ (rL_ (by (with_reducible repeat (first | apply rA_ | apply rN_ | apply rD_)); exact HO_350004.out) (Kd.R_base ho0) hb)
         have n2_ := M_ (Kd.S_elder' (by (with_reducible repeat (first | apply tA_ | apply tN_ | apply tD_)); exact HO_350005.out) (Kd.R_base ho0) hb)
         have n3_ := M_ (rL_ (by (with_reducible repeat (first | apply rA_ | apply rN_ | apply rD_)); exact HO_350006.out) (Kd.R_base ho0) hb)
         have n4_ := M_ (Kd.R_lower (Kd.R_new' (Kd.R_new' (Kd.R_new' ho0 (rT_ (by (with_reducible repeat (first | apply rA_ | apply rN_ | apply rD_)); exact HO_350001.out))) (rT_ (by (with_reducible repeat (first | apply rA_ | apply rN_ | apply rD_)); exact HO_350004.out))) (rT_ (by (with_reducible repeat (first | apply rA_ | apply rN_ | apply rD_)); exact HO_350006.out))) (wZ_ (by repeat (first | (with_reducible first | exact HB.out | apply wA_ | apply wN_ | apply wD_ | refine wS_ ?_ GE334.out | refine wS_ ?_ GE335.out | refine wS_ ?_ GE349.out) | exact HB.out))))
         have n5_ := M_ (blk_below (g := gb334) (o := .cells #[.string a0_0, .slice A0_1 l0_1.length c0_1, .string a0_2, .string a0_3, .slice A0_4 l0_4.length c0_4, .slice (some ad350) l0_5.length c0_5, .slice A0_6 l0_6.length c0_6, .string a0_7] 28 (0, 0)) (by (with_reducible repeat (first | refine bN_ ?_ _ | refine bD_ ?_ | refine bA_ ?_ _)); exact BK334.out) hb)
         have n6_ := M_ (blk_below (g := gb335) (o := .cells #[.string ⟨#[]⟩, .slice none 0 0, .string ⟨#[]⟩, .string ⟨#[]⟩, .slice none 0 0, .slice none 0 0, .slice none 0 0, .string ⟨#[]⟩] 28 (0, 0)) (by (with_reducible repeat (first | refine bN_ ?_ _ | refine bD_ ?_ | refine bA_ ?_ _)); exact BK335.out) hb)
         have n7_ := M_ (blk_below (g := gb349) (o := .cells #[.string t336, .slice Ao22 t340.length co22, .string t337, .string t338, .slice Ao21 t343.length co21, u350005, .slice Ao20 t346.length co20, .string t339] 28 (0, 0)) (by (with_reducible repeat (first | refine bN_ ?_ _ | refine bD_ ?_ | refine bA_ ?_ _)); exact BK349.out) hb)
         have n8_ := M_ (wT_ (by repeat (first | (with_reducible first | exact HB.out | apply wA_ | apply wN_ | apply wD_ | refine wS_ ?_ GE334.out | refine wS_ ?_ GE335.out | refine wS_ ?_ GE349.out) | exact HB.out)) hb)
         clear HO_350001 HO_350004 HO_350005 HO_350006 BK334 BK335 BK349 HB
         have HO_350001 := n0_; have HO_350004 := n1_; have HO_350005 := n2_; have HO_350006 := n3_; have HO355 := n4_; have BK334 := n5_; have BK335 := n6_; have BK349 := n7_; have HB := n8_
         clear n0_ n1_ n2_ n3_ n4_ n5_ n6_ n7_ n8_
         (try clear hb); (try clear hb2); (try clear hk); (try clear hi); (try clear ho0)
         obtain ⟨Ao47, co47, eo47⟩ := Kd.R_slice HO355.out
         (first | subst eo47 | (injection eo47 with f1_ f2_ f3_; have f4_ := f1_.symm; have f5_ := f3_.symm; clear f1_ f2_ f3_; subst f4_; subst f5_))
         refine hK.out _ _ ⟨(bC_ BK349.out 0).trans rfl, (bC_ BK349.out 1).trans rfl, (bC_ BK349.out 2).trans rfl, (bC_ BK349.out 3).trans rfl, (bC_ BK349.out 4).trans rfl, (bC_ BK349.out 5).trans rfl, (bC_ BK349.out 6).trans rfl, (bC_ BK349.out 7).trans rfl, (bC_ BK334.out 0).trans rfl, (bC_ BK334.out 1).trans rfl, (bC_ BK334.out 2).trans rfl, (bC_ BK334.out 3).trans rfl, (bC_ BK334.out 4).trans rfl, (bC_ BK334.out 5).trans rfl, (bC_ BK334.out 6).trans rfl, (bC_ BK334.out 7).trans rfl, ((HB.out.cell (World.block_lt_of_cell? w _ hw350_0)).trans hw350_0), ((HB.out.cell (World.block_lt_of_cell? w _ hw350_1)).trans hw350_1), ((HB.out.cell (World.block_lt_of_cell? w _ hw352_0)).trans hw352_0), ((HB.out.cell (World.block_lt_of_cell? w _ hw352_1)).trans hw352_1)⟩ (fun hHeld => ?_)
         clear hK K
         refine norm_ (a' := ?_) ?_ ?_
         rotate_left
         ·show Act.put _ (some 53) _ = _
          simp only [Act.put, sA_, sB_, sC_, i64_w, i32_w]
          rfl
         refine pure_ (i := 16) (N := some 54) (v := ?_) (a' := ?_) #[true, true, true, true, true, true, true, true, true, true, true, true, true, true, true, true, true, false, false, false, false] rfl rfl (any_of HT_.out (by kernel_rfl)) (fun _ _ _ h => h) (Or.inl ⟨by rfl, ?_⟩) ?_ ?_
         rotate_left
         ·intro w'
          go_simp
          with_reducible rfl
         rotate_left
         ·simp only [Act.put, sA_, sB_, sC_, i64_w, i32_w]
          rfl
         refine one_ (i := 17) (N := some 55) #[true, true, true, true, true, true, true, true, true, true, true, true, true, true, true, true, true, true, false, false, false] rfl rfl (one_of HT_.out (by kernel_rfl)) (by decide) (fun K hK => ?_)
         refine value_ (w1 := ?_) (v := ?_) (by rfl) rfl ?_ ?_
         rotate_left 2
         ·go_simp
          constructor
          ·rfl
          ·rfl
         refine hK.out _ _ ⟨(bC_ (bA_ BK349.out _) 0).trans rfl, (bC_ (bA_ BK349.out _) 1).trans rfl, (bC_ (bA_ BK349.out _) 2).trans rfl, (bC_ (bA_ BK349.out _) 3).trans rfl, (bC_ (bA_ BK349.out _) 4).trans rfl, (bC_ (bA_ BK349.out _) 5).trans rfl, (bC_ (bA_ BK349.out _) 6).trans rfl, (bC_ (bA_ BK349.out _) 7).trans rfl, (bC_ (bA_ BK334.out _) 0).trans rfl, (bC_ (bA_ BK334.out _) 1).trans rfl, (bC_ (bA_ BK334.out _) 2).trans rfl, (bC_ (bA_ BK334.out _) 3).trans rfl, (bC_ (bA_ BK334.out _) 4).trans rfl, (bC_ (bA_ BK334.out _) 5).trans rfl, (bC_ (bA_ BK334.out _) 6).trans rfl, (bC_ (bA_ BK334.out _) 7).trans rfl, (World.cell?_alloc_lt _ _ _ (World.block_lt_of_cell? _ _ (((HB.out.cell (World.block_lt_of_cell? w _ hw350_0)).trans hw350_0)))).trans (((HB.out.cell (World.block_lt_of_cell? w _ hw350_0)).trans hw350_0)), (World.cell?_alloc_lt _ _ _ (World.block_lt_of_cell? _ _ (((HB.out.cell (World.block_lt_of_cell? w _ hw350_1)).trans hw350_1)))).trans (((HB.out.cell (World.block_lt_of_cell? w _ hw350_1)).trans hw350_1)), (World.cell?_alloc_lt _ _ _ (World.block_lt_of_cell? _ _ (((HB.out.cell (World.block_lt_of_cell? w _ hw352_0)).trans hw352_0)))).trans (((HB.out.cell (World.block_lt_of_cell? w _ hw352_0)).trans hw352_0)), (World.cell?_alloc_lt _ _ _ (World.block_lt_of_cell? _ _ (((HB.out.cell (World.block_lt_of_cell? w _ hw352_1)).trans hw352_1)))).trans (((HB.out.cell (World.block_lt_of_cell? w _ hw352_1)).trans hw352_1))⟩ (fun hHeld => ?_)
         clear hK K
         refine norm_ (a' := ?_) ?_ ?_
         rotate_left
         ·show Act.put _ (some 55) _ = _
          simp only [Act.put, sA_, sB_, sC_, i64_w, i32_w]
          rfl
         refine one_ (i := 18) (N := some 56) #[true, true, true, true, true, true, true, true, true, true, true, true, true, true, true, true, true, true, true, false, false] rfl rfl (one_of HT_.out (by kernel_rfl)) (by decide) (fun K hK => ?_)
         refine Kd.S_append_step k44 (w0 := w) w.heap.size (by rfl) (.tmp 39) (.tmp 55) 26 44 (.agg #[(.string ⟨#[]⟩), (.slice none 0 0)]) 40 rfl Try.underlying26 info44 rfl (by decide) (by omega) u350005 x350005_1 (⟨t351, t353⟩ : S44) [.string t351, .slice Ao47 t353.length co47] (fun k_ => some k_ ≠ (.slice Ao22 t340.length co22 : Value).ownBlock ∧ some k_ ≠ (.slice Ao21 t343.length co21 : Value).ownBlock ∧ some k_ ≠ (.slice Ao20 t346.length co20 : Value).ownBlock) (fun k_ => some k_ = (.slice Ao47 t353.length co47 : Value).ownBlock) rfl rfl ?aP (fun k_ hk_ => ((rM_ (ok' := fun k_ => ((fun k_ => some k_ ≠ (.slice Ao22 t340.length co22 : Value).ownBlock ∧ some k_ ≠ (.slice Ao21 t343.length co21 : Value).ownBlock ∧ some k_ ≠ (.slice Ao20 t346.length co20 : Value).ownBlock)) k_ ∧ some k_ ≠ (u350005 : Value).ownBlock) (Kd.R_apart' (HO355.out) (Kd.S_typed HO_350005.out) (by decide)) (fun k_ hk => ⟨⟨hk.1.1.1.2, ⟨hk.1.1.2, hk.1.2⟩⟩, hk.2⟩))).1 k_ hk_.symm) ?aF ?aO ?aB ?aS ?aL ?_
         (case aP => exact k44_mkM _ _ _ (⟨t351, t353⟩ : S44) (rM_ (Kd.R_tight rfl (rM_ (ok' := fun k_ => ((fun k_ => some k_ ≠ (.slice Ao22 t340.length co22 : Value).ownBlock ∧ some k_ ≠ (.slice Ao21 t343.length co21 : Value).ownBlock ∧ some k_ ≠ (.slice Ao20 t346.length co20 : Value).ownBlock)) k_ ∧ some k_ ≠ (u350005 : Value).ownBlock) (Kd.R_apart' (HO355.out) (Kd.S_typed HO_350005.out) (by decide)) (fun k_ hk => ⟨⟨hk.1.1.1.2, ⟨hk.1.1.2, hk.1.2⟩⟩, hk.2⟩))) (fun _ h_ => h_)))
         (case aB => exact (by repeat (first | (with_reducible first | exact HB.out | apply wA_ | apply wN_ | apply wD_ | refine wS_ ?_ GE334.out | refine wS_ ?_ GE335.out | refine wS_ ?_ GE349.out) | exact HB.out)))
         (case aF => exact (fun k_ hk => ⟨Kd.fresh' (rT_ (by (with_reducible repeat (first | apply rA_ | apply rN_ | apply rD_)); exact HO_350001.out)) k_ hk, Kd.fresh' (rT_ (by (with_reducible repeat (first | apply rA_ | apply rN_ | apply rD_)); exact HO_350004.out)) k_ hk, Kd.fresh' (rT_ (by (with_reducible repeat (first | apply rA_ | apply rN_ | apply rD_)); exact HO_350006.out)) k_ hk⟩))
         (case aO => exact (by (with_reducible repeat (first | apply tA_ | apply tN_ | apply tD_)); exact Kd.S_mono HO_350005.out (fun k_ hk => ⟨⟨hk.1.1, ⟨hk.1.2.1, hk.1.2.2⟩⟩, fun e_ => hk.2 e_⟩)))
         (case aS => exact (wZ_ (by repeat (first | (with_reducible first | exact HB.out | apply wA_ | apply wN_ | apply wD_ | refine wS_ ?_ GE334.out | refine wS_ ?_ GE335.out | refine wS_ ?_ GE349.out) | exact HB.out))))
         (case aL => have := LMc44.out; omega)
         intro v357 w48 ho hb hg hat
         rw [← Ny356.out] at ho
         have n0_ := M_ (Kd.R_over' (by (with_reducible repeat (first | apply rA_ | apply rN_ | apply rD_)); exact HO_350001.out) (Kd.S_typed (by (with_reducible repeat (first | apply tA_ | apply tN_ | apply tD_)); exact HO_350005.out)) (by decide) hg)
         have n1_ := M_ (Kd.R_over' (by (with_reducible repeat (first | apply rA_ | apply rN_ | apply rD_)); exact HO_350004.out) (Kd.S_typed (by (with_reducible repeat (first | apply tA_ | apply tN_ | apply tD_)); exact HO_350005.out)) (by decide) hg)
         have n2_ := M_ (Kd.R_over' (by (with_reducible repeat (first | apply rA_ | apply rN_ | apply rD_)); exact HO_350006.out) (Kd.S_typed (by (with_reducible repeat (first | apply tA_ | apply tN_ | apply tD_)); exact HO_350005.out)) (by decide) hg)
         have n3_ := M_ (blk_grown (g := gb334) (o := .cells #[.string a0_0, .slice A0_1 l0_1.length c0_1, .string a0_2, .string a0_3, .slice A0_4 l0_4.length c0_4, .slice (some ad350) l0_5.length c0_5, .slice A0_6 l0_6.length c0_6, .string a0_7] 28 (0, 0)) (by (with_reducible repeat (first | refine bN_ ?_ _ | refine bD_ ?_ | refine bA_ ?_ _)); exact BK334.out) hg (Kd.S_ne HO_350005.out BK334.out (by decide)))
         have n4_ := M_ (blk_grown (g := gb335) (o := .cells #[.string ⟨#[]⟩, .slice none 0 0, .string ⟨#[]⟩, .string ⟨#[]⟩, .slice none 0 0, .slice none 0 0, .slice none 0 0, .string ⟨#[]⟩] 28 (0, 0)) (by (with_reducible repeat (first | refine bN_ ?_ _ | refine bD_ ?_ | refine bA_ ?_ _)); exact BK335.out) hg (Kd.S_ne HO_350005.out BK335.out (by decide)))
         have n5_ := M_ (blk_grown (g := gb349) (o := .cells #[.string t336, .slice Ao22 t340.length co22, .string t337, .string t338, .slice Ao21 t343.length co21, u350005, .slice Ao20 t346.length co20, .string t339] 28 (0, 0)) (by (with_reducible repeat (first | refine bN_ ?_ _ | refine bD_ ?_ | refine bA_ ?_ _)); exact BK349.out) hg (Kd.S_ne HO_350005.out BK349.out (by decide)))
         have n6_ := M_ (hb)
         have n7_ := M_ (ho)
         clear HO_350001 HO_350004 HO_350006 BK334 BK335 BK349 HB HO_350005 HO355
         have HO_350001 := n0_; have HO_350004 := n1_; have HO_350006 := n2_; have BK334 := n3_; have BK335 := n4_; have BK349 := n5_; have HB := n6_; have HO358 := n7_
         clear n0_ n1_ n2_ n3_ n4_ n5_ n6_ n7_ ho hb hg hat
         obtain ⟨Ao49, co49, eo49⟩ := Kd.S_slice HO358.out
         (first | subst eo49 | (injection eo49 with f1_ f2_ f3_; have f4_ := f1_.symm; have f5_ := f3_.symm; clear f1_ f2_ f3_; subst f4_; subst f5_))
         refine hK.out _ _ ⟨(bC_ BK349.out 0).trans rfl, (bC_ BK349.out 1).trans rfl, (bC_ BK349.out 2).trans rfl, (bC_ BK349.out 3).trans rfl, (bC_ BK349.out 4).trans rfl, (bC_ BK349.out 5).trans rfl, (bC_ BK349.out 6).trans rfl, (bC_ BK349.out 7).trans rfl, (bC_ BK334.out 0).trans rfl, (bC_ BK334.out 1).trans rfl, (bC_ BK334.out 2).trans rfl, (bC_ BK334.out 3).trans rfl, (bC_ BK334.out 4).trans rfl, (bC_ BK334.out 5).trans rfl, (bC_ BK334.out 6).trans rfl, (bC_ BK334.out 7).trans rfl, ((HB.out.cell (World.block_lt_of_cell? w _ hw350_0)).trans hw350_0), ((HB.out.cell (World.block_lt_of_cell? w _ hw350_1)).trans hw350_1), ((HB.out.cell (World.block_lt_of_cell? w _ hw352_0)).trans hw352_0), ((HB.out.cell (World.block_lt_of_cell? w _ hw352_1)).trans hw352_1)⟩ (fun hHeld => ?_)
         clear hK K
         refine norm_ (a' := ?_) ?_ ?_
         rotate_left
         ·show Act.put _ (some 56) _ = _
          simp only [Act.put, sA_, sB_, sC_, i64_w, i32_w]
          rfl
         refine pure_ (i := 19) (N := some 57) (v := ?_) (a' := ?_) #[true, true, true, true, true, true, true, true, true, true, true, true, true, true, true, true, true, true, true, true, false] rfl rfl (any_of HT_.out (by kernel_rfl)) (fun _ _ _ h => h) (Or.inl ⟨by rfl, ?_⟩) ?_ ?_
         rotate_left
         ·intro w'
          go_simp
          with_reducible rfl
         rotate_left
         ·simp only [Act.put, sA_, sB_, sC_, i64_w, i32_w]
          rfl
         refine last_ (i := 20) (N := none) #[true, true, true, true, true, true, true, true, true, true, true, true, true, true, true, true, true, true, true, true, true] rfl rfl (one_of HT_.out (by kernel_rfl)) (by decide) (fun K hK => ?_)
         have hs50 : w48.cell? ⟨gb349, 5, none⟩ = some (u350005) := (bC_ BK349.out 5).trans rfl
         have hfs50 := bF_ BK349.out 5
         have hns50_0 := NB334_349.out
         have hns50_1 := NB335_349.out
         have hms50_0 := NB349_334.out
         have hms50_1 := NB349_335.out
         refine skip_ (w1 := ?_) (by rfl) rfl ?_ ?_
         rotate_left
         ·go_simp
          rfl
         refine hK.out _ _ ?_
         clear hK K
         refine done_ (done_of HT_.out (by kernel_rfl)) ?_
         try go_wp2
         go_roundg kj30
         case measure => have := HK1.out; have := HJ30.out; omega
         case rel => exact ⟨(wrap64 (x4_1 + 1)), (y356), (.slice Ao49 y356.length co49), (by first | rfl | (simp; done) | (simp [*]; done)), H', ⟨by have := HK1.out; have := HJ30.out; omega⟩, ⟨by (with_reducible repeat (first | apply rA_ | apply rN_ | apply rD_)); exact rM_ (Kd.R_far (p := ⟨gb349, 5, none⟩) (Kd.R_types HO_350001.out BK349.out (by decide)) (fun _ hk => hk.2) (.slice Ao49 y356.length co49)) (fun _ hk => ⟨hk.1.1.1, hk.1.1.2⟩)⟩, ⟨by (with_reducible repeat (first | apply rA_ | apply rN_ | apply rD_)); exact rM_ (Kd.R_far (p := ⟨gb349, 5, none⟩) (Kd.R_types HO_350004.out BK349.out (by decide)) (fun _ hk => hk.2) (.slice Ao49 y356.length co49)) (fun _ hk => ⟨hk.1.1.1, hk.1.1.2⟩)⟩, ⟨by (with_reducible repeat (first | apply tA_ | apply tN_ | apply tD_)); exact Kd.S_mono (Kd.S_far (p := ⟨gb349, 5, none⟩) (Kd.S_types HO358.out BK349.out (by decide)) (fun _ hk => hk.2) (.slice Ao49 y356.length co49)) (fun _ hk => ⟨hk.1.1, ⟨hk.1.2.1, hk.1.2.2⟩⟩)⟩, ⟨by (with_reducible repeat (first | apply rA_ | apply rN_ | apply rD_)); exact rM_ (Kd.R_far (p := ⟨gb349, 5, none⟩) (Kd.R_types HO_350006.out BK349.out (by decide)) (fun _ hk => hk.2) (.slice Ao49 y356.length co49)) (fun _ hk => ⟨hk.1.1.1, hk.1.1.2⟩)⟩, ⟨by (with_reducible repeat (first | refine bN_ ?_ _ | refine bD_ ?_ | refine bA_ ?_ _)); refine blk_far ?_ NB334_349.out _; (with_reducible repeat (first | refine bN_ ?_ _ | refine bD_ ?_ | refine bA_ ?_ _)); exact BK334.out⟩, ⟨by (with_reducible repeat (first | refine bN_ ?_ _ | refine bD_ ?_ | refine bA_ ?_ _)); refine blk_far ?_ NB335_349.out _; (with_reducible repeat (first | refine bN_ ?_ _ | refine bD_ ?_ | refine bA_ ?_ _)); exact BK335.out⟩, ⟨by (with_reducible repeat (first | refine bN_ ?_ _ | refine bD_ ?_ | refine bA_ ?_ _)); refine blk_put (cs := #[.string t336, .slice Ao22 t340.length co22, .string t337, .string t338, .slice Ao21 t343.length co21, u350005, .slice Ao20 t346.length co20, .string t339]) ?_ 5 _ rfl; (with_reducible repeat (first | refine bN_ ?_ _ | refine bD_ ?_ | refine bA_ ?_ _)); exact BK349.out⟩, ⟨by repeat (first | (with_reducible first | exact HB.out | apply wA_ | apply wN_ | apply wD_ | refine wS_ ?_ GE334.out | refine wS_ ?_ GE335.out | refine wS_ ?_ GE349.out) | exact HB.out)⟩⟩
        ·rw [if_neg c44] at H
         exact absurd H (by simp)
       ·rw [if_neg c41] at H
        exact absurd H (by simp)
      ·rw [if_neg c40] at H
       exact absurd H (by simp)
     ·replace c39 := Bool.eq_false_iff.mpr c39
      subst c39
      have H1 : (some (t336, t340, t337, t338, t343, x350005_1, t346, t339)) = some (r1, r2, r3, r4, r5, r6, r7, r8) := by rw [if_neg (show ¬ (false = true) by decide)] at H; exact H
      clear H
      have H := H1
      clear H1
      simp only [Option.some.injEq, Prod.mk.injEq] at H
      obtain ⟨rfl, rfl, rfl, rfl, rfl, rfl, rfl, rfl⟩ := H
      have hnb51 := NB349_334.out
      have hnc51 := NB334_349.out
      have hnb52 := NB349_335.out
      have hnc52 := NB335_349.out
      obtain ⟨hcz53_0, hcz53_1, hcz53_2, hcz53_3, hcz53_4, hcz53_5, hcz53_6, hcz53_7, hfz53_0, hfz53_1, hfz53_2, hfz53_3, hfz53_4, hfz53_5, hfz53_6, hfz53_7⟩ := c8_9 BK349.out
      have hnb54 := NB335_334.out
      have hnc54 := NB334_335.out
      obtain ⟨hcz55_0, hcz55_1, hcz55_2, hcz55_3, hcz55_4, hcz55_5, hcz55_6, hcz55_7, hfz55_0, hfz55_1, hfz55_2, hfz55_3, hfz55_4, hfz55_5, hfz55_6, hfz55_7⟩ := c8_9 BK335.out
      obtain ⟨Ao56, co56, eo56⟩ := Kd.S_slice HO_350005.out
      subst eo56
      go_wp2
      refine bodyPost_ret (results_cell_row rfl _ _ gb335 28 #[.string t336, .slice Ao22 t340.length co22, .string t337, .string t338, .slice Ao21 t343.length co21, .slice Ao56 x350005_1.length co56, .slice Ao20 t346.length co20, .string t339] (0, 0) _ rfl (by (with_reducible repeat (first | refine bN_ ?_ _ | refine bD_ ?_ | refine bA_ ?_ _)); refine blk_put (cs := #[.string t336, .slice Ao22 t340.length co22, .string t337, .string t338, .slice Ao21 t343.length co21, .slice Ao56 x350005_1.length co56, .slice Ao20 t346.length co20, .string ⟨#[]⟩]) ?_ 7 _ rfl; (with_reducible repeat (first | refine bN_ ?_ _ | refine bD_ ?_ | refine bA_ ?_ _)); refine blk_put (cs := #[.string t336, .slice Ao22 t340.length co22, .string t337, .string t338, .slice Ao21 t343.length co21, .slice Ao56 x350005_1.length co56, .slice none 0 0, .string ⟨#[]⟩]) ?_ 6 _ rfl; (with_reducible repeat (first | refine bN_ ?_ _ | refine bD_ ?_ | refine bA_ ?_ _)); refine blk_put (cs := #[.string t336, .slice Ao22 t340.length co22, .string t337, .string t338, .slice Ao21 t343.length co21, .slice none 0 0, .slice none 0 0, .string ⟨#[]⟩]) ?_ 5 _ rfl; (with_reducible repeat (first | refine bN_ ?_ _ | refine bD_ ?_ | refine bA_ ?_ _)); refine blk_put (cs := #[.string t336, .slice Ao22 t340.length co22, .string t337, .string t338, .slice none 0 0, .slice none 0 0, .slice none 0 0, .string ⟨#[]⟩]) ?_ 4 _ rfl; (with_reducible repeat (first | refine bN_ ?_ _ | refine bD_ ?_ | refine bA_ ?_ _)); refine blk_put (cs := #[.string t336, .slice Ao22 t340.length co22, .string t337, .string ⟨#[]⟩, .slice none 0 0, .slice none 0 0, .slice none 0 0, .string ⟨#[]⟩]) ?_ 3 _ rfl; (with_reducible repeat (first | refine bN_ ?_ _ | refine bD_ ?_ | refine bA_ ?_ _)); refine blk_put (cs := #[.string t336, .slice Ao22 t340.length co22, .string ⟨#[]⟩, .string ⟨#[]⟩, .slice none 0 0, .slice none 0 0, .slice none 0 0, .string ⟨#[]⟩]) ?_ 2 _ rfl; (with_reducible repeat (first | refine bN_ ?_ _ | refine bD_ ?_ | refine bA_ ?_ _)); refine blk_put (cs := #[.string t336, .slice none 0 0, .string ⟨#[]⟩, .string ⟨#[]⟩, .slice none 0 0, .slice none 0 0, .slice none 0 0, .string ⟨#[]⟩]) ?_ 1 _ rfl; (with_reducible repeat (first | refine bN_ ?_ _ | refine bD_ ?_ | refine bA_ ?_ _)); refine blk_put (cs := #[.string ⟨#[]⟩, .slice none 0 0, .string ⟨#[]⟩, .string ⟨#[]⟩, .slice none 0 0, .slice none 0 0, .slice none 0 0, .string ⟨#[]⟩]) ?_ 0 _ rfl; (with_reducible repeat (first | refine bN_ ?_ _ | refine bD_ ?_ | refine bA_ ?_ _)); exact BK335.out) Try.underlying28 rfl (by kernel_rfl)) rfl ?_
      exact ⟨_, _, _, _, by first | rfl | (simp [errW_none, errW_some] <;> rfl) | (simp [*, errW_none, errW_some] <;> rfl), by (with_reducible repeat (first | apply rA_ | apply rN_ | apply rD_)); exact rM_ (Kd.R_far (p := ⟨gb335, 7, none⟩) (Kd.R_far (p := ⟨gb335, 6, none⟩) (Kd.R_far (p := ⟨gb335, 5, none⟩) (Kd.R_far (p := ⟨gb335, 4, none⟩) (Kd.R_far (p := ⟨gb335, 3, none⟩) (Kd.R_far (p := ⟨gb335, 2, none⟩) (Kd.R_far (p := ⟨gb335, 1, none⟩) (Kd.R_far (p := ⟨gb335, 0, none⟩) (Kd.R_types HO_350001.out BK335.out (by decide)) (fun _ hk => hk.2) (.string t336)) (fun _ hk => hk.2) (.slice Ao22 t340.length co22)) (fun _ hk => hk.2) (.string t337)) (fun _ hk => hk.2) (.string t338)) (fun _ hk => hk.2) (.slice Ao21 t343.length co21)) (fun _ hk => hk.2) (.slice Ao56 x350005_1.length co56)) (fun _ hk => hk.2) (.slice Ao20 t346.length co20)) (fun _ hk => hk.2) (.string t339)) (fun _ hk => ⟨hk.1.1, hk.1.2⟩), by (with_reducible repeat (first | apply rA_ | apply rN_ | apply rD_)); exact rM_ (Kd.R_far (p := ⟨gb335, 7, none⟩) (Kd.R_far (p := ⟨gb335, 6, none⟩) (Kd.R_far (p := ⟨gb335, 5, none⟩) (Kd.R_far (p := ⟨gb335, 4, none⟩) (Kd.R_far (p := ⟨gb335, 3, none⟩) (Kd.R_far (p := ⟨gb335, 2, none⟩) (Kd.R_far (p := ⟨gb335, 1, none⟩) (Kd.R_far (p := ⟨gb335, 0, none⟩) (Kd.R_types HO_350004.out BK335.out (by decide)) (fun _ hk => hk.2) (.string t336)) (fun _ hk => hk.2) (.slice Ao22 t340.length co22)) (fun _ hk => hk.2) (.string t337)) (fun _ hk => hk.2) (.string t338)) (fun _ hk => hk.2) (.slice Ao21 t343.length co21)) (fun _ hk => hk.2) (.slice Ao56 x350005_1.length co56)) (fun _ hk => hk.2) (.slice Ao20 t346.length co20)) (fun _ hk => hk.2) (.string t339)) (fun _ hk => ⟨hk.1.1, hk.1.2⟩), by (with_reducible repeat (first | apply tA_ | apply tN_ | apply tD_)); exact Kd.S_mono (Kd.S_far (p := ⟨gb335, 7, none⟩) (Kd.S_far (p := ⟨gb335, 6, none⟩) (Kd.S_far (p := ⟨gb335, 5, none⟩) (Kd.S_far (p := ⟨gb335, 4, none⟩) (Kd.S_far (p := ⟨gb335, 3, none⟩) (Kd.S_far (p := ⟨gb335, 2, none⟩) (Kd.S_far (p := ⟨gb335, 1, none⟩) (Kd.S_far (p := ⟨gb335, 0, none⟩) (Kd.S_types HO_350005.out BK335.out (by decide)) (fun _ hk => hk.2) (.string t336)) (fun _ hk => hk.2) (.slice Ao22 t340.length co22)) (fun _ hk => hk.2) (.string t337)) (fun _ hk => hk.2) (.string t338)) (fun _ hk => hk.2) (.slice Ao21 t343.length co21)) (fun _ hk => hk.2) (.slice Ao56 x350005_1.length co56)) (fun _ hk => hk.2) (.slice Ao20 t346.length co20)) (fun _ hk => hk.2) (.string t339)) (fun _ hk => ⟨hk.1.1, ⟨hk.1.2.1, hk.1.2.2⟩⟩), by (with_reducible repeat (first | apply rA_ | apply rN_ | apply rD_)); exact rM_ (Kd.R_far (p := ⟨gb335, 7, none⟩) (Kd.R_far (p := ⟨gb335, 6, none⟩) (Kd.R_far (p := ⟨gb335, 5, none⟩) (Kd.R_far (p := ⟨gb335, 4, none⟩) (Kd.R_far (p := ⟨gb335, 3, none⟩) (Kd.R_far (p := ⟨gb335, 2, none⟩) (Kd.R_far (p := ⟨gb335, 1, none⟩) (Kd.R_far (p := ⟨gb335, 0, none⟩) (Kd.R_types HO_350006.out BK335.out (by decide)) (fun _ hk => hk.2) (.string t336)) (fun _ hk => hk.2) (.slice Ao22 t340.length co22)) (fun _ hk => hk.2) (.string t337)) (fun _ hk => hk.2) (.string t338)) (fun _ hk => hk.2) (.slice Ao21 t343.length co21)) (fun _ hk => hk.2) (.slice Ao56 x350005_1.length co56)) (fun _ hk => hk.2) (.slice Ao20 t346.length co20)) (fun _ hk => hk.2) (.string t339)) (fun _ hk => ⟨hk.1.1, hk.1.2⟩), by repeat (first | (with_reducible first | exact HB.out | apply wA_ | apply wN_ | apply wD_ | refine wS_ ?_ GE334.out | refine wS_ ?_ GE335.out | refine wS_ ?_ GE349.out) | exact HB.out)⟩
end Go.Proofs.Ytljadeeoaoiilaa.P
