-- Written for this claim by the session's own run of the print, functions proved by hand put in.
import Derived.Test.YtljadeeoaoiilaaHandSubtags
import Derived.Test.YtljadeeoaoiilaaPx0
import Derived.Test.YtljadeeoaoiilaaPx1
import Derived.Test.YtljadeeoaoiilaaPx3
import Derived.Test.YtljadeeoaoiilaaPx7
import Derived.Test.YtljadeeoaoiilaaPx9
import Derived.Test.YtljadeeoaoiilaaPx11
namespace Go.Proofs.Ytljadeeoaoiilaa.P
open Go.RowKit Go.Proofs.YtljadeeoaoiilaaW.PrintWords Go.Proofs.YtljadeeoaoiilaaW.PrintLast Go.Proofs.YtljadeeoaoiilaaW.PrintMore
open List renaming setIfInBounds_toArray → sA_, set_cons_zero → sB_, set_cons_succ → sC_
open Go.Proofs.YtljadeeoaoiilaaW.PrintWords renaming blk_alloc → bA_, blk_drewN → bN_, blk_drew → bD_, blk_cell → bC_, below_alloc → wA_, pw_below_drewN → wN_, below_drew1 → wD_, below_set → wS_, below_size → wZ_, below_step → wT_
open Go.Proofs.YtljadeeoaoiilaaW.PrintWords.Kd renaming R_alloc → rA_, R_drewN → rN_, R_drew → rD_, C_alloc → cA_, C_drewN → cN_, C_drew → cD_, C_below → cB_, S_alloc → tA_, S_drewN → tN_, S_drew → tD_, R_mono → rM_, R_elder' → rL_, R_reads' → rR_, R_lt → rT_
attribute [local go_sem] max2_int min2_int max_two min_two max_three min_three max_four min_four   -- for this text's walks alone
set_option linter.unusedVariables false
set_option linter.unusedSimpArgs false

/-! ### isoglosslaw06_TagSubtags: function 7 -/
def isoglosslaw06_TagSubtags.f (k : Nat) (a0_0 : ByteArray) (l0_1 : List ByteArray) (a0_2 : ByteArray) (a0_3 : ByteArray) (l0_4 : List ByteArray) (l0_5 : List (S44)) (l0_6 : List ByteArray) (a0_7 : ByteArray) (a1_0 : Int) (a1_1 : Int) (a1_2 : Int) (a1_3 : Int) (l1_4 : List Int) (l1_5 : List Int) (l1_6 : List Int) (a1_7 : Int) : Option (Bool) := (isoglosslaw06_awake.f k).bind fun t504 => ((isoglosslaw06_few.f k a0_0 l0_1 a0_2 a0_3 l0_4 l0_5 l0_6 a0_7).bind fun bt505 => ((tag_Subtags.f bt505.1 bt505.2.1 bt505.2.2.1 bt505.2.2.2.1 bt505.2.2.2.2.1 bt505.2.2.2.2.2.1 bt505.2.2.2.2.2.2.1 bt505.2.2.2.2.2.2.2).bind fun t521 => ((isoglosslaw06_few.f k a0_0 l0_1 a0_2 a0_3 l0_4 l0_5 l0_6 a0_7).bind fun bt524 => ((isoglossref06_Subtags.f k bt524.1 bt524.2.1 bt524.2.2.1 bt524.2.2.2.1 bt524.2.2.2.2.1 bt524.2.2.2.2.2.1 bt524.2.2.2.2.2.2.1 bt524.2.2.2.2.2.2.2).bind fun t540 => ((isoglossref04_Same.f k t521 t540).bind fun t543 => ((isoglossref06_Made.f k a1_0 a1_1 a1_2 a1_3 l1_4 l1_5 l1_6 a1_7).bind fun bt544 => ((tag_Subtags.f bt544.1 bt544.2.1 bt544.2.2.1 bt544.2.2.2.1 bt544.2.2.2.2.1 bt544.2.2.2.2.2.1 bt544.2.2.2.2.2.2.1 bt544.2.2.2.2.2.2.2).bind fun t560 => ((isoglossref06_Made.f k a1_0 a1_1 a1_2 a1_3 l1_4 l1_5 l1_6 a1_7).bind fun bt563 => ((isoglossref06_Subtags.f k bt563.1 bt563.2.1 bt563.2.2.1 bt563.2.2.2.1 bt563.2.2.2.2.1 bt563.2.2.2.2.2.1 bt563.2.2.2.2.2.2.1 bt563.2.2.2.2.2.2.2).bind fun t579 => ((isoglossref04_Same.f k t560 t579).bind fun t582 => (if t504 = true then (if t543 = true then (if t582 = true then ((tag_Subtags.f (⟨#[]⟩ : ByteArray) ([] : List ByteArray) (⟨#[]⟩ : ByteArray) (⟨#[]⟩ : ByteArray) ([] : List ByteArray) ([] : List (S44)) ([] : List ByteArray) (⟨#[]⟩ : ByteArray)).bind fun t583 => (some ((t583.length : Int) == 0))) else (some false)) else (some false)) else (some false))))))))))))
theorem isoglosslaw06_TagSubtags.mono : ∀ a0 a1 a2 a3 a4 a5 a6 a7 a8 a9 a10 a11 a12 a13 a14 a15 k, LeO (isoglosslaw06_TagSubtags.f k a0 a1 a2 a3 a4 a5 a6 a7 a8 a9 a10 a11 a12 a13 a14 a15) (isoglosslaw06_TagSubtags.f (k + 1) a0 a1 a2 a3 a4 a5 a6 a7 a8 a9 a10 a11 a12 a13 a14 a15) := by
 intro a0 a1 a2 a3 a4 a5 a6 a7 a8 a9 a10 a11 a12 a13 a14 a15 k
 unfold isoglosslaw06_TagSubtags.f
 repeat' first
   | (with_reducible exact isoglosslaw06_awake.mono _)
   | (with_reducible exact isoglosslaw06_few.mono _ _ _ _ _ _ _ _ _)
   | (with_reducible exact isoglossref04_Same.mono _ _ _)
   | (with_reducible exact isoglossref06_Made.mono _ _ _ _ _ _ _ _ _)
   | (with_reducible exact isoglossref06_Subtags.mono _ _ _ _ _ _ _ _ _)
   | (with_reducible exact LeO.refl _)
   | (with_reducible exact LeO.none _)
   | (with_reducible refine LeO.ite ?_ ?_)
   | (with_reducible refine LeO.bind ?_ (fun _ => ?_))
   | exact isoglosslaw06_awake.mono _
   | exact isoglosslaw06_few.mono _ _ _ _ _ _ _ _ _
   | exact isoglossref04_Same.mono _ _ _
   | exact isoglossref06_Made.mono _ _ _ _ _ _ _ _ _
   | exact isoglossref06_Subtags.mono _ _ _ _ _ _ _ _ _
   | exact LeO.none _
   | refine LeO.ite ?_ ?_
   | refine LeO.bind ?_ (fun _ => ?_)
def isoglosslaw06_TagSubtags.T2 : Bool × List (List Nat × List Nat) := (true, [([], []), ([0], [0]), ([1, 1], [1]), ([], []), ([3, 2], [3]), ([4, 4], [4]), ([2, 5, 5], [2, 5]), ([6, 6, 0, 1, 2, 3, 4, 5, 6], [6])])
def isoglosslaw06_TagSubtags.B2 : List Nat := [0, 1, 3, 0, 15, 31, 63, 127]
theorem isoglosslaw06_TagSubtags.tab2 : rtab .any (opsOf Try.f7 2) = isoglosslaw06_TagSubtags.T2 := by kernel_rfl
theorem isoglosslaw06_TagSubtags.bits2 : waitsOk isoglosslaw06_TagSubtags.T2.2 isoglosslaw06_TagSubtags.B2 = true := by kernel_rfl
def isoglosslaw06_TagSubtags.T3 : Bool × List (List Nat × List Nat) := (true, [([], []), ([0], [0]), ([1, 1], [1]), ([], []), ([3, 2], [3]), ([4, 4], [4]), ([2, 5, 5], [2, 5]), ([6, 6, 0, 1, 2, 3, 4, 5, 6], [6])])
def isoglosslaw06_TagSubtags.B3 : List Nat := [0, 1, 3, 0, 15, 31, 63, 127]
theorem isoglosslaw06_TagSubtags.tab3 : rtab .any (opsOf Try.f7 3) = isoglosslaw06_TagSubtags.T3 := by kernel_rfl
theorem isoglosslaw06_TagSubtags.bits3 : waitsOk isoglosslaw06_TagSubtags.T3.2 isoglosslaw06_TagSubtags.B3 = true := by kernel_rfl
set_option maxHeartbeats 8000000 in
set_option maxRecDepth 100000 in
theorem isoglosslaw06_TagSubtags.calls (k : Nat) (a0_0 : ByteArray) (A0_1 : Option Addr) (c0_1 : Nat) (l0_1 : List ByteArray) (a0_2 : ByteArray) (a0_3 : ByteArray) (A0_4 : Option Addr) (c0_4 : Nat) (l0_4 : List ByteArray) (A0_5 : Option Addr) (c0_5 : Nat) (l0_5 : List (S44)) (A0_6 : Option Addr) (c0_6 : Nat) (l0_6 : List ByteArray) (a0_7 : ByteArray) (a1_0 : Int) (a1_1 : Int) (a1_2 : Int) (a1_3 : Int) (A1_4 : Option Addr) (c1_4 : Nat) (l1_4 : List Int) (A1_5 : Option Addr) (c1_5 : Nat) (l1_5 : List Int) (A1_6 : Option Addr) (c1_6 : Nat) (l1_6 : List Int) (a1_7 : Int) (r : Bool) (w : World) (hr0_1 : Kd.C Kd.string w A0_1 l0_1.length l0_1) (hc0_1 : l0_1.length ≤ c0_1) (hr0_4 : Kd.C Kd.string w A0_4 l0_4.length l0_4) (hc0_4 : l0_4.length ≤ c0_4) (hr0_5 : Kd.C k44 w A0_5 l0_5.length l0_5) (hc0_5 : l0_5.length ≤ c0_5) (hr0_6 : Kd.C Kd.string w A0_6 l0_6.length l0_6) (hc0_6 : l0_6.length ≤ c0_6) (hr1_4 : Kd.C (Kd.int .i64) w A1_4 l1_4.length l1_4) (hc1_4 : l1_4.length ≤ c1_4) (hr1_5 : Kd.C (Kd.int .i64) w A1_5 l1_5.length l1_5) (hc1_5 : l1_5.length ≤ c1_5) (hr1_6 : Kd.C (Kd.int .i64) w A1_6 l1_6.length l1_6) (hc1_6 : l1_6.length ≤ c1_6) (h : isoglosslaw06_TagSubtags.f k a0_0 l0_1 a0_2 a0_3 l0_4 l0_5 l0_6 a0_7 a1_0 a1_1 a1_2 a1_3 l1_4 l1_5 l1_6 a1_7 = some r) (hrt : r = true) :
  Calls Try.prog 7 #[.agg #[.string a0_0, .slice A0_1 l0_1.length c0_1, .string a0_2, .string a0_3, .slice A0_4 l0_4.length c0_4, .slice A0_5 l0_5.length c0_5, .slice A0_6 l0_6.length c0_6, .string a0_7], .agg #[.int .i64 a1_0, .int .i64 a1_1, .int .i64 a1_2, .int .i64 a1_3, .slice A1_4 l1_4.length c1_4, .slice A1_5 l1_5.length c1_5, .slice A1_6 l1_6.length c1_6, .int .i64 a1_7]] w fun e w' => e = .returned (.bool r) ∧ Below w.heap.size w w' := by
 have HRT := Aside0.mk hrt
 clear hrt
 have hu28 := Try.underlying28
 have hu24 := Try.underlying24
 have HR0_1 := Aside0.mk hr0_1
 have HC0_1 := Aside0.mk hc0_1
 clear hr0_1 hc0_1
 have HR0_4 := Aside0.mk hr0_4
 have HC0_4 := Aside0.mk hc0_4
 clear hr0_4 hc0_4
 have HR0_5 := Aside0.mk hr0_5
 have HC0_5 := Aside0.mk hc0_5
 clear hr0_5 hc0_5
 have HR0_6 := Aside0.mk hr0_6
 have HC0_6 := Aside0.mk hc0_6
 clear hr0_6 hc0_6
 have HR1_4 := Aside0.mk hr1_4
 have HC1_4 := Aside0.mk hc1_4
 clear hr1_4 hc1_4
 have HR1_5 := Aside0.mk hr1_5
 have HC1_5 := Aside0.mk hc1_5
 clear hr1_5 hc1_5
 have HR1_6 := Aside0.mk hr1_6
 have HC1_6 := Aside0.mk hc1_6
 clear hr1_6 hc1_6
 have HB := Aside0.mk (Below.refl w.heap.size w)
 have H : ((isoglosslaw06_awake.f k).bind fun t504 => ((isoglosslaw06_few.f k a0_0 l0_1 a0_2 a0_3 l0_4 l0_5 l0_6 a0_7).bind fun bt505 => ((tag_Subtags.f bt505.1 bt505.2.1 bt505.2.2.1 bt505.2.2.2.1 bt505.2.2.2.2.1 bt505.2.2.2.2.2.1 bt505.2.2.2.2.2.2.1 bt505.2.2.2.2.2.2.2).bind fun t521 => ((isoglosslaw06_few.f k a0_0 l0_1 a0_2 a0_3 l0_4 l0_5 l0_6 a0_7).bind fun bt524 => ((isoglossref06_Subtags.f k bt524.1 bt524.2.1 bt524.2.2.1 bt524.2.2.2.1 bt524.2.2.2.2.1 bt524.2.2.2.2.2.1 bt524.2.2.2.2.2.2.1 bt524.2.2.2.2.2.2.2).bind fun t540 => ((isoglossref04_Same.f k t521 t540).bind fun t543 => ((isoglossref06_Made.f k a1_0 a1_1 a1_2 a1_3 l1_4 l1_5 l1_6 a1_7).bind fun bt544 => ((tag_Subtags.f bt544.1 bt544.2.1 bt544.2.2.1 bt544.2.2.2.1 bt544.2.2.2.2.1 bt544.2.2.2.2.2.1 bt544.2.2.2.2.2.2.1 bt544.2.2.2.2.2.2.2).bind fun t560 => ((isoglossref06_Made.f k a1_0 a1_1 a1_2 a1_3 l1_4 l1_5 l1_6 a1_7).bind fun bt563 => ((isoglossref06_Subtags.f k bt563.1 bt563.2.1 bt563.2.2.1 bt563.2.2.2.1 bt563.2.2.2.2.1 bt563.2.2.2.2.2.1 bt563.2.2.2.2.2.2.1 bt563.2.2.2.2.2.2.2).bind fun t579 => ((isoglossref04_Same.f k t560 t579).bind fun t582 => (if t504 = true then (if t543 = true then (if t582 = true then ((tag_Subtags.f (⟨#[]⟩ : ByteArray) ([] : List ByteArray) (⟨#[]⟩ : ByteArray) (⟨#[]⟩ : ByteArray) ([] : List ByteArray) ([] : List (S44)) ([] : List ByteArray) (⟨#[]⟩ : ByteArray)).bind fun t583 => (some ((t583.length : Int) == 0))) else (some false)) else (some false)) else (some false))))))))))))) = some r := h
 clear h
 replace H := Option.bind_eq_some_iff.mp H
 obtain ⟨t504, A30, H⟩ := H
 replace H : ((isoglosslaw06_few.f k a0_0 l0_1 a0_2 a0_3 l0_4 l0_5 l0_6 a0_7).bind fun bt505 => ((tag_Subtags.f bt505.1 bt505.2.1 bt505.2.2.1 bt505.2.2.2.1 bt505.2.2.2.2.1 bt505.2.2.2.2.2.1 bt505.2.2.2.2.2.2.1 bt505.2.2.2.2.2.2.2).bind fun t521 => ((isoglosslaw06_few.f k a0_0 l0_1 a0_2 a0_3 l0_4 l0_5 l0_6 a0_7).bind fun bt524 => ((isoglossref06_Subtags.f k bt524.1 bt524.2.1 bt524.2.2.1 bt524.2.2.2.1 bt524.2.2.2.2.1 bt524.2.2.2.2.2.1 bt524.2.2.2.2.2.2.1 bt524.2.2.2.2.2.2.2).bind fun t540 => ((isoglossref04_Same.f k t521 t540).bind fun t543 => ((isoglossref06_Made.f k a1_0 a1_1 a1_2 a1_3 l1_4 l1_5 l1_6 a1_7).bind fun bt544 => ((tag_Subtags.f bt544.1 bt544.2.1 bt544.2.2.1 bt544.2.2.2.1 bt544.2.2.2.2.1 bt544.2.2.2.2.2.1 bt544.2.2.2.2.2.2.1 bt544.2.2.2.2.2.2.2).bind fun t560 => ((isoglossref06_Made.f k a1_0 a1_1 a1_2 a1_3 l1_4 l1_5 l1_6 a1_7).bind fun bt563 => ((isoglossref06_Subtags.f k bt563.1 bt563.2.1 bt563.2.2.1 bt563.2.2.2.1 bt563.2.2.2.2.1 bt563.2.2.2.2.2.1 bt563.2.2.2.2.2.2.1 bt563.2.2.2.2.2.2.2).bind fun t579 => ((isoglossref04_Same.f k t560 t579).bind fun t582 => (if t504 = true then (if t543 = true then (if t582 = true then ((tag_Subtags.f (⟨#[]⟩ : ByteArray) ([] : List ByteArray) (⟨#[]⟩ : ByteArray) (⟨#[]⟩ : ByteArray) ([] : List ByteArray) ([] : List (S44)) ([] : List ByteArray) (⟨#[]⟩ : ByteArray)).bind fun t583 => (some ((t583.length : Int) == 0))) else (some false)) else (some false)) else (some false)))))))))))) = some r := H
 have A3 := Aside0.mk A30
 clear A30
 replace H := Option.bind_eq_some_iff.mp H
 obtain ⟨⟨t505, t506, t509, t510, t511, t514, t517, t520⟩, A40, H⟩ := H
 replace H : ((tag_Subtags.f t505 t506 t509 t510 t511 t514 t517 t520).bind fun t521 => ((isoglosslaw06_few.f k a0_0 l0_1 a0_2 a0_3 l0_4 l0_5 l0_6 a0_7).bind fun bt524 => ((isoglossref06_Subtags.f k bt524.1 bt524.2.1 bt524.2.2.1 bt524.2.2.2.1 bt524.2.2.2.2.1 bt524.2.2.2.2.2.1 bt524.2.2.2.2.2.2.1 bt524.2.2.2.2.2.2.2).bind fun t540 => ((isoglossref04_Same.f k t521 t540).bind fun t543 => ((isoglossref06_Made.f k a1_0 a1_1 a1_2 a1_3 l1_4 l1_5 l1_6 a1_7).bind fun bt544 => ((tag_Subtags.f bt544.1 bt544.2.1 bt544.2.2.1 bt544.2.2.2.1 bt544.2.2.2.2.1 bt544.2.2.2.2.2.1 bt544.2.2.2.2.2.2.1 bt544.2.2.2.2.2.2.2).bind fun t560 => ((isoglossref06_Made.f k a1_0 a1_1 a1_2 a1_3 l1_4 l1_5 l1_6 a1_7).bind fun bt563 => ((isoglossref06_Subtags.f k bt563.1 bt563.2.1 bt563.2.2.1 bt563.2.2.2.1 bt563.2.2.2.2.1 bt563.2.2.2.2.2.1 bt563.2.2.2.2.2.2.1 bt563.2.2.2.2.2.2.2).bind fun t579 => ((isoglossref04_Same.f k t560 t579).bind fun t582 => (if t504 = true then (if t543 = true then (if t582 = true then ((tag_Subtags.f (⟨#[]⟩ : ByteArray) ([] : List ByteArray) (⟨#[]⟩ : ByteArray) (⟨#[]⟩ : ByteArray) ([] : List ByteArray) ([] : List (S44)) ([] : List ByteArray) (⟨#[]⟩ : ByteArray)).bind fun t583 => (some ((t583.length : Int) == 0))) else (some false)) else (some false)) else (some false))))))))))) = some r := H
 have A4 := Aside0.mk A40
 clear A40
 replace H := Option.bind_eq_some_iff.mp H
 obtain ⟨t521, A50, H⟩ := H
 replace H : ((isoglosslaw06_few.f k a0_0 l0_1 a0_2 a0_3 l0_4 l0_5 l0_6 a0_7).bind fun bt524 => ((isoglossref06_Subtags.f k bt524.1 bt524.2.1 bt524.2.2.1 bt524.2.2.2.1 bt524.2.2.2.2.1 bt524.2.2.2.2.2.1 bt524.2.2.2.2.2.2.1 bt524.2.2.2.2.2.2.2).bind fun t540 => ((isoglossref04_Same.f k t521 t540).bind fun t543 => ((isoglossref06_Made.f k a1_0 a1_1 a1_2 a1_3 l1_4 l1_5 l1_6 a1_7).bind fun bt544 => ((tag_Subtags.f bt544.1 bt544.2.1 bt544.2.2.1 bt544.2.2.2.1 bt544.2.2.2.2.1 bt544.2.2.2.2.2.1 bt544.2.2.2.2.2.2.1 bt544.2.2.2.2.2.2.2).bind fun t560 => ((isoglossref06_Made.f k a1_0 a1_1 a1_2 a1_3 l1_4 l1_5 l1_6 a1_7).bind fun bt563 => ((isoglossref06_Subtags.f k bt563.1 bt563.2.1 bt563.2.2.1 bt563.2.2.2.1 bt563.2.2.2.2.1 bt563.2.2.2.2.2.1 bt563.2.2.2.2.2.2.1 bt563.2.2.2.2.2.2.2).bind fun t579 => ((isoglossref04_Same.f k t560 t579).bind fun t582 => (if t504 = true then (if t543 = true then (if t582 = true then ((tag_Subtags.f (⟨#[]⟩ : ByteArray) ([] : List ByteArray) (⟨#[]⟩ : ByteArray) (⟨#[]⟩ : ByteArray) ([] : List ByteArray) ([] : List (S44)) ([] : List ByteArray) (⟨#[]⟩ : ByteArray)).bind fun t583 => (some ((t583.length : Int) == 0))) else (some false)) else (some false)) else (some false)))))))))) = some r := H
 have A5 := Aside0.mk A50
 clear A50
 replace H := Option.bind_eq_some_iff.mp H
 obtain ⟨⟨t524, t525, t528, t529, t530, t533, t536, t539⟩, A60, H⟩ := H
 replace H : ((isoglossref06_Subtags.f k t524 t525 t528 t529 t530 t533 t536 t539).bind fun t540 => ((isoglossref04_Same.f k t521 t540).bind fun t543 => ((isoglossref06_Made.f k a1_0 a1_1 a1_2 a1_3 l1_4 l1_5 l1_6 a1_7).bind fun bt544 => ((tag_Subtags.f bt544.1 bt544.2.1 bt544.2.2.1 bt544.2.2.2.1 bt544.2.2.2.2.1 bt544.2.2.2.2.2.1 bt544.2.2.2.2.2.2.1 bt544.2.2.2.2.2.2.2).bind fun t560 => ((isoglossref06_Made.f k a1_0 a1_1 a1_2 a1_3 l1_4 l1_5 l1_6 a1_7).bind fun bt563 => ((isoglossref06_Subtags.f k bt563.1 bt563.2.1 bt563.2.2.1 bt563.2.2.2.1 bt563.2.2.2.2.1 bt563.2.2.2.2.2.1 bt563.2.2.2.2.2.2.1 bt563.2.2.2.2.2.2.2).bind fun t579 => ((isoglossref04_Same.f k t560 t579).bind fun t582 => (if t504 = true then (if t543 = true then (if t582 = true then ((tag_Subtags.f (⟨#[]⟩ : ByteArray) ([] : List ByteArray) (⟨#[]⟩ : ByteArray) (⟨#[]⟩ : ByteArray) ([] : List ByteArray) ([] : List (S44)) ([] : List ByteArray) (⟨#[]⟩ : ByteArray)).bind fun t583 => (some ((t583.length : Int) == 0))) else (some false)) else (some false)) else (some false))))))))) = some r := H
 have A6 := Aside0.mk A60
 clear A60
 replace H := Option.bind_eq_some_iff.mp H
 obtain ⟨t540, A70, H⟩ := H
 replace H : ((isoglossref04_Same.f k t521 t540).bind fun t543 => ((isoglossref06_Made.f k a1_0 a1_1 a1_2 a1_3 l1_4 l1_5 l1_6 a1_7).bind fun bt544 => ((tag_Subtags.f bt544.1 bt544.2.1 bt544.2.2.1 bt544.2.2.2.1 bt544.2.2.2.2.1 bt544.2.2.2.2.2.1 bt544.2.2.2.2.2.2.1 bt544.2.2.2.2.2.2.2).bind fun t560 => ((isoglossref06_Made.f k a1_0 a1_1 a1_2 a1_3 l1_4 l1_5 l1_6 a1_7).bind fun bt563 => ((isoglossref06_Subtags.f k bt563.1 bt563.2.1 bt563.2.2.1 bt563.2.2.2.1 bt563.2.2.2.2.1 bt563.2.2.2.2.2.1 bt563.2.2.2.2.2.2.1 bt563.2.2.2.2.2.2.2).bind fun t579 => ((isoglossref04_Same.f k t560 t579).bind fun t582 => (if t504 = true then (if t543 = true then (if t582 = true then ((tag_Subtags.f (⟨#[]⟩ : ByteArray) ([] : List ByteArray) (⟨#[]⟩ : ByteArray) (⟨#[]⟩ : ByteArray) ([] : List ByteArray) ([] : List (S44)) ([] : List ByteArray) (⟨#[]⟩ : ByteArray)).bind fun t583 => (some ((t583.length : Int) == 0))) else (some false)) else (some false)) else (some false)))))))) = some r := H
 have A7 := Aside0.mk A70
 clear A70
 replace H := Option.bind_eq_some_iff.mp H
 obtain ⟨t543, A80, H⟩ := H
 replace H : ((isoglossref06_Made.f k a1_0 a1_1 a1_2 a1_3 l1_4 l1_5 l1_6 a1_7).bind fun bt544 => ((tag_Subtags.f bt544.1 bt544.2.1 bt544.2.2.1 bt544.2.2.2.1 bt544.2.2.2.2.1 bt544.2.2.2.2.2.1 bt544.2.2.2.2.2.2.1 bt544.2.2.2.2.2.2.2).bind fun t560 => ((isoglossref06_Made.f k a1_0 a1_1 a1_2 a1_3 l1_4 l1_5 l1_6 a1_7).bind fun bt563 => ((isoglossref06_Subtags.f k bt563.1 bt563.2.1 bt563.2.2.1 bt563.2.2.2.1 bt563.2.2.2.2.1 bt563.2.2.2.2.2.1 bt563.2.2.2.2.2.2.1 bt563.2.2.2.2.2.2.2).bind fun t579 => ((isoglossref04_Same.f k t560 t579).bind fun t582 => (if t504 = true then (if t543 = true then (if t582 = true then ((tag_Subtags.f (⟨#[]⟩ : ByteArray) ([] : List ByteArray) (⟨#[]⟩ : ByteArray) (⟨#[]⟩ : ByteArray) ([] : List ByteArray) ([] : List (S44)) ([] : List ByteArray) (⟨#[]⟩ : ByteArray)).bind fun t583 => (some ((t583.length : Int) == 0))) else (some false)) else (some false)) else (some false))))))) = some r := H
 have A8 := Aside0.mk A80
 clear A80
 replace H := Option.bind_eq_some_iff.mp H
 obtain ⟨⟨t544, t545, t548, t549, t550, t553, t556, t559⟩, A90, H⟩ := H
 replace H : ((tag_Subtags.f t544 t545 t548 t549 t550 t553 t556 t559).bind fun t560 => ((isoglossref06_Made.f k a1_0 a1_1 a1_2 a1_3 l1_4 l1_5 l1_6 a1_7).bind fun bt563 => ((isoglossref06_Subtags.f k bt563.1 bt563.2.1 bt563.2.2.1 bt563.2.2.2.1 bt563.2.2.2.2.1 bt563.2.2.2.2.2.1 bt563.2.2.2.2.2.2.1 bt563.2.2.2.2.2.2.2).bind fun t579 => ((isoglossref04_Same.f k t560 t579).bind fun t582 => (if t504 = true then (if t543 = true then (if t582 = true then ((tag_Subtags.f (⟨#[]⟩ : ByteArray) ([] : List ByteArray) (⟨#[]⟩ : ByteArray) (⟨#[]⟩ : ByteArray) ([] : List ByteArray) ([] : List (S44)) ([] : List ByteArray) (⟨#[]⟩ : ByteArray)).bind fun t583 => (some ((t583.length : Int) == 0))) else (some false)) else (some false)) else (some false)))))) = some r := H
 have A9 := Aside0.mk A90
 clear A90
 replace H := Option.bind_eq_some_iff.mp H
 obtain ⟨t560, A100, H⟩ := H
 replace H : ((isoglossref06_Made.f k a1_0 a1_1 a1_2 a1_3 l1_4 l1_5 l1_6 a1_7).bind fun bt563 => ((isoglossref06_Subtags.f k bt563.1 bt563.2.1 bt563.2.2.1 bt563.2.2.2.1 bt563.2.2.2.2.1 bt563.2.2.2.2.2.1 bt563.2.2.2.2.2.2.1 bt563.2.2.2.2.2.2.2).bind fun t579 => ((isoglossref04_Same.f k t560 t579).bind fun t582 => (if t504 = true then (if t543 = true then (if t582 = true then ((tag_Subtags.f (⟨#[]⟩ : ByteArray) ([] : List ByteArray) (⟨#[]⟩ : ByteArray) (⟨#[]⟩ : ByteArray) ([] : List ByteArray) ([] : List (S44)) ([] : List ByteArray) (⟨#[]⟩ : ByteArray)).bind fun t583 => (some ((t583.length : Int) == 0))) else (some false)) else (some false)) else (some false))))) = some r := H
 have A10 := Aside0.mk A100
 clear A100
 replace H := Option.bind_eq_some_iff.mp H
 obtain ⟨⟨t563, t564, t567, t568, t569, t572, t575, t578⟩, A110, H⟩ := H
 replace H : ((isoglossref06_Subtags.f k t563 t564 t567 t568 t569 t572 t575 t578).bind fun t579 => ((isoglossref04_Same.f k t560 t579).bind fun t582 => (if t504 = true then (if t543 = true then (if t582 = true then ((tag_Subtags.f (⟨#[]⟩ : ByteArray) ([] : List ByteArray) (⟨#[]⟩ : ByteArray) (⟨#[]⟩ : ByteArray) ([] : List ByteArray) ([] : List (S44)) ([] : List ByteArray) (⟨#[]⟩ : ByteArray)).bind fun t583 => (some ((t583.length : Int) == 0))) else (some false)) else (some false)) else (some false)))) = some r := H
 have A11 := Aside0.mk A110
 clear A110
 replace H := Option.bind_eq_some_iff.mp H
 obtain ⟨t579, A120, H⟩ := H
 replace H : ((isoglossref04_Same.f k t560 t579).bind fun t582 => (if t504 = true then (if t543 = true then (if t582 = true then ((tag_Subtags.f (⟨#[]⟩ : ByteArray) ([] : List ByteArray) (⟨#[]⟩ : ByteArray) (⟨#[]⟩ : ByteArray) ([] : List ByteArray) ([] : List (S44)) ([] : List ByteArray) (⟨#[]⟩ : ByteArray)).bind fun t583 => (some ((t583.length : Int) == 0))) else (some false)) else (some false)) else (some false))) = some r := H
 have A12 := Aside0.mk A120
 clear A120
 replace H := Option.bind_eq_some_iff.mp H
 obtain ⟨t582, A130, H⟩ := H
 replace H : (if t504 = true then (if t543 = true then (if t582 = true then ((tag_Subtags.f (⟨#[]⟩ : ByteArray) ([] : List ByteArray) (⟨#[]⟩ : ByteArray) (⟨#[]⟩ : ByteArray) ([] : List ByteArray) ([] : List (S44)) ([] : List ByteArray) (⟨#[]⟩ : ByteArray)).bind fun t583 => (some ((t583.length : Int) == 0))) else (some false)) else (some false)) else (some false)) = some r := H
 have A13 := Aside0.mk A130
 clear A130
 by_cases c14 : t504 = true
 ·subst c14
  have H1 : (if t543 = true then (if t582 = true then ((tag_Subtags.f (⟨#[]⟩ : ByteArray) ([] : List ByteArray) (⟨#[]⟩ : ByteArray) (⟨#[]⟩ : ByteArray) ([] : List ByteArray) ([] : List (S44)) ([] : List ByteArray) (⟨#[]⟩ : ByteArray)).bind fun t583 => (some ((t583.length : Int) == 0))) else (some false)) else (some false)) = some r := by rw [if_pos rfl] at H; exact H
  clear H
  have H := H1
  clear H1
  by_cases c15 : t543 = true
  ·subst c15
   have H1 : (if t582 = true then ((tag_Subtags.f (⟨#[]⟩ : ByteArray) ([] : List ByteArray) (⟨#[]⟩ : ByteArray) (⟨#[]⟩ : ByteArray) ([] : List ByteArray) ([] : List (S44)) ([] : List ByteArray) (⟨#[]⟩ : ByteArray)).bind fun t583 => (some ((t583.length : Int) == 0))) else (some false)) = some r := by rw [if_pos rfl] at H; exact H
   clear H
   have H := H1
   clear H1
   by_cases c16 : t582 = true
   ·subst c16
    have H1 : ((tag_Subtags.f (⟨#[]⟩ : ByteArray) ([] : List ByteArray) (⟨#[]⟩ : ByteArray) (⟨#[]⟩ : ByteArray) ([] : List ByteArray) ([] : List (S44)) ([] : List ByteArray) (⟨#[]⟩ : ByteArray)).bind fun t583 => (some ((t583.length : Int) == 0))) = some r := by rw [if_pos rfl] at H; exact H
    clear H
    have H := H1
    clear H1
    replace H := Option.bind_eq_some_iff.mp H
    obtain ⟨t583, A170, H⟩ := H
    replace H : (some ((t583.length : Int) == 0)) = some r := H
    have A17 := Aside0.mk A170
    clear A170
    obtain rfl := Option.some.inj H
    go_enter Try.func7, Try.ntmps7
    try go_wp2_with (first | ((with_reducible refine gate_dst (N := 2) rfl ?_); (try (refine gate_guard (by rfl) ?_; dsimp only)); refine box_event ?hg (N := 2) ?hd (cs := #[.string a0_0, .slice A0_1 l0_1.length c0_1, .string a0_2, .string a0_3, .slice A0_4 l0_4.length c0_4, .slice A0_5 l0_5.length c0_5, .slice A0_6 l0_6.length c0_6, .string a0_7]) (t := 28) ?hr ?_; (case hd => rfl); (case hg => rfl); (case hr => first | (go_simp; done) | (go_simp; rfl)); intro gb502 hg w18 hbox hb; have n0_ := Aside0.mk (wT_ (by repeat (first | (with_reducible first | exact HB.out | apply wA_ | apply wN_ | apply wD_) | exact HB.out)) hb); have n1_ := Aside0.mk (hbox); have n2_ := Aside0.mk ((by rw [hg]; exact (wZ_ (by repeat (first | (with_reducible first | exact HB.out | apply wA_ | apply wN_ | apply wD_) | exact HB.out))) : w.heap.size ≤ gb502)); have n3_ := Aside0.mk ((by rw [hg]; exact (wZ_ (by repeat (first | (with_reducible first | exact HB.out | apply wA_ | apply wN_ | apply wD_) | exact HB.out))) : w.heap.size ≤ gb502)); clear HB; have HB := n0_; have BK502 := n1_; have GW502 := n2_; have GE502 := n3_; clear n0_ n1_ n2_ n3_; clear hb hbox hg) | ((with_reducible refine gate_dst (N := 3) rfl ?_); (try (refine gate_guard (by rfl) ?_; dsimp only)); refine box_event ?hg (N := 3) ?hd (cs := #[.int .i64 a1_0, .int .i64 a1_1, .int .i64 a1_2, .int .i64 a1_3, .slice A1_4 l1_4.length c1_4, .slice A1_5 l1_5.length c1_5, .slice A1_6 l1_6.length c1_6, .int .i64 a1_7]) (t := 24) ?hr ?_; (case hd => rfl); (case hg => rfl); (case hr => first | (go_simp; done) | (go_simp; rfl)); intro gb503 hg w19 hbox hb; have n0_ := Aside0.mk (blk_below (g := gb502) (o := .cells #[.string a0_0, .slice A0_1 l0_1.length c0_1, .string a0_2, .string a0_3, .slice A0_4 l0_4.length c0_4, .slice A0_5 l0_5.length c0_5, .slice A0_6 l0_6.length c0_6, .string a0_7] 28 (0, 0)) (by (with_reducible repeat (first | refine bN_ ?_ _ | refine bD_ ?_ | refine bA_ ?_ _)); exact BK502.out) hb); have n1_ := Aside0.mk (wT_ (by repeat (first | (with_reducible first | exact HB.out | apply wA_ | apply wN_ | apply wD_ | refine wS_ ?_ GE502.out) | exact HB.out)) hb); have n2_ := Aside0.mk (hbox); have n3_ := Aside0.mk ((by rw [hg]; exact (wZ_ (by repeat (first | (with_reducible first | exact HB.out | apply wA_ | apply wN_ | apply wD_ | refine wS_ ?_ GE502.out) | exact HB.out))) : w.heap.size ≤ gb503)); have n4_ := Aside0.mk ((by rw [hg]; exact (wZ_ (by repeat (first | (with_reducible first | exact HB.out | apply wA_ | apply wN_ | apply wD_ | refine wS_ ?_ GE502.out) | exact HB.out))) : w.heap.size ≤ gb503)); have n5_ := Aside0.mk ((by rw [hg]; exact Nat.ne_of_lt (blk_lt (g := gb502) (o := .cells #[.string a0_0, .slice A0_1 l0_1.length c0_1, .string a0_2, .string a0_3, .slice A0_4 l0_4.length c0_4, .slice A0_5 l0_5.length c0_5, .slice A0_6 l0_6.length c0_6, .string a0_7] 28 (0, 0)) (by (with_reducible repeat (first | refine bN_ ?_ _ | refine bD_ ?_ | refine bA_ ?_ _)); exact BK502.out)) : gb502 ≠ gb503)); have n6_ := Aside0.mk ((by rw [hg]; exact Nat.ne_of_gt (blk_lt (g := gb502) (o := .cells #[.string a0_0, .slice A0_1 l0_1.length c0_1, .string a0_2, .string a0_3, .slice A0_4 l0_4.length c0_4, .slice A0_5 l0_5.length c0_5, .slice A0_6 l0_6.length c0_6, .string a0_7] 28 (0, 0)) (by (with_reducible repeat (first | refine bN_ ?_ _ | refine bD_ ?_ | refine bA_ ?_ _)); exact BK502.out)) : gb503 ≠ gb502)); clear BK502; clear HB; have BK502 := n0_; have HB := n1_; have BK503 := n2_; have GW503 := n3_; have GE503 := n4_; have NB502_503 := n5_; have NB503_502 := n6_; clear n0_ n1_ n2_ n3_ n4_ n5_ n6_; clear hb hbox hg) | ((with_reducible refine gate_callee (f := 8) rfl ?_); refine goesL_ (some 8) rfl rfl Try.func8 (by kernel_rfl) rfl #[] rfl (by (try simp only [List.map_toArray, List.map_cons, List.map_nil]); first | done | rfl | (simp only [List.length_drop, List.length_take]; rfl)) ?_; (with_reducible refine (isoglosslaw06_awake.calls k  true _ A3.out).mono ?_); rintro e w' ⟨rfl, ⟨nd, rfl⟩⟩; refine ⟨_, rfl, ?_⟩))
    (try (rw [drewN_self w19]; generalize hq_ : World.drewN w19 _ = w19; have n0_ : Aside0 (w19.heap[gb502]? = some (.cells #[.string a0_0, .slice A0_1 l0_1.length c0_1, .string a0_2, .string a0_3, .slice A0_4 l0_4.length c0_4, .slice A0_5 l0_5.length c0_5, .slice A0_6 l0_6.length c0_6, .string a0_7] 28 (0, 0))) := ⟨by rw [← hq_]; exact (by (with_reducible repeat (first | refine bN_ ?_ _ | refine bD_ ?_ | refine bA_ ?_ _)); exact BK502.out)⟩; have n1_ : Aside0 (w19.heap[gb503]? = some (.cells #[.int .i64 a1_0, .int .i64 a1_1, .int .i64 a1_2, .int .i64 a1_3, .slice A1_4 l1_4.length c1_4, .slice A1_5 l1_5.length c1_5, .slice A1_6 l1_6.length c1_6, .int .i64 a1_7] 24 (0, 0))) := ⟨by rw [← hq_]; exact (by (with_reducible repeat (first | refine bN_ ?_ _ | refine bD_ ?_ | refine bA_ ?_ _)); exact BK503.out)⟩; have n2_ : Aside0 (Below w.heap.size w w19) := ⟨by rw [← hq_]; exact (by repeat (first | (with_reducible first | exact HB.out | apply wA_ | apply wN_ | apply wD_ | refine wS_ ?_ GE502.out | refine wS_ ?_ GE503.out) | exact HB.out))⟩; clear BK502 BK503 HB hq_; have BK502 := n0_; have BK503 := n1_; have HB := n2_; clear n0_ n1_ n2_))
    have n0_ := Aside0.mk (bD_ BK502.out)
    have n1_ := Aside0.mk (bD_ BK503.out)
    have n2_ := Aside0.mk (wD_ HB.out)
    clear BK502 BK503 HB
    have BK502 := n0_; have BK503 := n1_; have HB := n2_
    clear n0_ n1_ n2_
    refine start_ (n := 8) (S := fun w' => w'.cell? ⟨gb502, 0, none⟩ = some (.string a0_0) ∧ w'.cell? ⟨gb502, 1, none⟩ = some (.slice A0_1 l0_1.length c0_1) ∧ w'.cell? ⟨gb502, 2, none⟩ = some (.string a0_2) ∧ w'.cell? ⟨gb502, 3, none⟩ = some (.string a0_3) ∧ w'.cell? ⟨gb502, 4, none⟩ = some (.slice A0_4 l0_4.length c0_4) ∧ w'.cell? ⟨gb502, 5, none⟩ = some (.slice A0_5 l0_5.length c0_5) ∧ w'.cell? ⟨gb502, 6, none⟩ = some (.slice A0_6 l0_6.length c0_6) ∧ w'.cell? ⟨gb502, 7, none⟩ = some (.string a0_7)) (ds := []) #[false, false, false, false, false, false, false, false] (by kernel_rfl) rfl rfl ⟨(bC_ BK502.out 0).trans rfl, (bC_ BK502.out 1).trans rfl, (bC_ BK502.out 2).trans rfl, (bC_ BK502.out 3).trans rfl, (bC_ BK502.out 4).trans rfl, (bC_ BK502.out 5).trans rfl, (bC_ BK502.out 6).trans rfl, (bC_ BK502.out 7).trans rfl⟩ (fun hHeld => ?_); refine with_tabW isoglosslaw06_TagSubtags.tab2 isoglosslaw06_TagSubtags.bits2 (fun HT_ HW_ => ?_)
    generalize w19.drew = w20 at BK502 BK503 HB hHeld ⊢
    refine take_ (i := 0) (N := some 9) (v := ?_) (a' := ?_) #[true, false, false, false, false, false, false, false] rfl rfl (take_ofW HT_.out HW_.out (by kernel_rfl)) (fun _ _ _ h => h) (Or.inl ⟨by rfl, ?_⟩) hHeld ?_ ?_
    rotate_left
    ·rintro w' ⟨s0, s1, s2, s3, s4, s5, s6, s7⟩
     go_simp
     with_reducible rfl
    rotate_left
    ·simp only [Act.put, sA_, sB_, sC_, i64_w, i32_w]
     rfl
    refine take_ (i := 3) (N := some 12) (v := ?_) (a' := ?_) #[true, false, false, true, false, false, false, false] rfl rfl (take_ofW HT_.out HW_.out (by kernel_rfl)) (fun _ _ _ h => h) (Or.inl ⟨by rfl, ?_⟩) hHeld ?_ ?_
    rotate_left
    ·rintro w' ⟨s0, s1, s2, s3, s4, s5, s6, s7⟩
     go_simp
     with_reducible rfl
    rotate_left
    ·simp only [Act.put, sA_, sB_, sC_, i64_w, i32_w]
     rfl
    refine one_ (i := 1) (N := some 10) #[true, true, false, true, false, false, false, false] rfl rfl (one_of HT_.out (by kernel_rfl)) (by decide) (fun K hK => ?_)
    refine goes_ Try.func11 (by kernel_rfl) rfl #[.agg #[.string a0_0, .slice A0_1 l0_1.length c0_1, .string a0_2, .string a0_3, .slice A0_4 l0_4.length c0_4, .slice A0_5 l0_5.length c0_5, .slice A0_6 l0_6.length c0_6, .string a0_7]] (by rfl) rfl rfl (by (try simp only [List.map_toArray, List.map_cons, List.map_nil]); first | done | rfl | (simp only [List.length_drop, List.length_take]; rfl)) ?_
    with_reducible refine (isoglosslaw06_few.calls k a0_0 _ _ l0_1 a0_2 a0_3 _ _ l0_4 _ _ l0_5 _ _ l0_6 a0_7 t505 t506 t509 t510 t511 t514 t517 t520 _ ?side1 ?side2 ?side3 ?side4 ?side5 ?side6 ?side7 ?side8 A4.out).mono ?_
    (case side1 => repeat (first | exact (cB_ HR0_1.out HB.out) | (with_reducible refine cA_ ?_ _) | (with_reducible refine cN_ ?_ _) | (with_reducible refine cD_ ?_)))
    (case side2 => exact HC0_1.out)
    (case side3 => repeat (first | exact (cB_ HR0_4.out HB.out) | (with_reducible refine cA_ ?_ _) | (with_reducible refine cN_ ?_ _) | (with_reducible refine cD_ ?_)))
    (case side4 => exact HC0_4.out)
    (case side5 => repeat (first | exact (cB_ HR0_5.out HB.out) | (with_reducible refine cA_ ?_ _) | (with_reducible refine cN_ ?_ _) | (with_reducible refine cD_ ?_)))
    (case side6 => exact HC0_5.out)
    (case side7 => repeat (first | exact (cB_ HR0_6.out HB.out) | (with_reducible refine cA_ ?_ _) | (with_reducible refine cN_ ?_ _) | (with_reducible refine cD_ ?_)))
    (case side8 => exact HC0_6.out)
    rintro e w21 ⟨v507, v512, v515, v518, rfl, ho0, ho1, ho2, ho3, hb⟩
    refine ⟨_, rfl, ?_⟩
    have n0_ := Aside0.mk (Kd.R_lower ho0 (wZ_ (by repeat (first | (with_reducible first | exact HB.out | apply wA_ | apply wN_ | apply wD_ | refine wS_ ?_ GE502.out | refine wS_ ?_ GE503.out) | exact HB.out))))
    have n1_ := Aside0.mk (Kd.R_lower ho1 (wZ_ (by repeat (first | (with_reducible first | exact HB.out | apply wA_ | apply wN_ | apply wD_ | refine wS_ ?_ GE502.out | refine wS_ ?_ GE503.out) | exact HB.out))))
    have n2_ := Aside0.mk (Kd.S_lower ho2 (wZ_ (by repeat (first | (with_reducible first | exact HB.out | apply wA_ | apply wN_ | apply wD_ | refine wS_ ?_ GE502.out | refine wS_ ?_ GE503.out) | exact HB.out))))
    have n3_ := Aside0.mk (Kd.R_lower ho3 (wZ_ (by repeat (first | (with_reducible first | exact HB.out | apply wA_ | apply wN_ | apply wD_ | refine wS_ ?_ GE502.out | refine wS_ ?_ GE503.out) | exact HB.out))))
    have n4_ := Aside0.mk (blk_below (g := gb502) (o := .cells #[.string a0_0, .slice A0_1 l0_1.length c0_1, .string a0_2, .string a0_3, .slice A0_4 l0_4.length c0_4, .slice A0_5 l0_5.length c0_5, .slice A0_6 l0_6.length c0_6, .string a0_7] 28 (0, 0)) (by (with_reducible repeat (first | refine bN_ ?_ _ | refine bD_ ?_ | refine bA_ ?_ _)); exact BK502.out) hb)
    have n5_ := Aside0.mk (blk_below (g := gb503) (o := .cells #[.int .i64 a1_0, .int .i64 a1_1, .int .i64 a1_2, .int .i64 a1_3, .slice A1_4 l1_4.length c1_4, .slice A1_5 l1_5.length c1_5, .slice A1_6 l1_6.length c1_6, .int .i64 a1_7] 24 (0, 0)) (by (with_reducible repeat (first | refine bN_ ?_ _ | refine bD_ ?_ | refine bA_ ?_ _)); exact BK503.out) hb)
    have n6_ := Aside0.mk (wT_ (by repeat (first | (with_reducible first | exact HB.out | apply wA_ | apply wN_ | apply wD_ | refine wS_ ?_ GE502.out | refine wS_ ?_ GE503.out) | exact HB.out)) hb)
    clear BK502 BK503 HB
    have HO508 := n0_; have HO513 := n1_; have HO516 := n2_; have HO519 := n3_; have BK502 := n4_; have BK503 := n5_; have HB := n6_
    clear n0_ n1_ n2_ n3_ n4_ n5_ n6_
    (try clear hb); (try clear hb2); (try clear hk); (try clear hi); (try clear ho0); (try clear ho1); (try clear ho2); (try clear ho3)
    obtain ⟨Ao22, co22, eo22⟩ := Kd.R_slice HO508.out
    (first | subst eo22 | (injection eo22 with f1_ f2_ f3_; have f4_ := f1_.symm; have f5_ := f3_.symm; clear f1_ f2_ f3_; subst f4_; subst f5_))
    obtain ⟨Ao23, co23, eo23⟩ := Kd.R_slice HO513.out
    (first | subst eo23 | (injection eo23 with f1_ f2_ f3_; have f4_ := f1_.symm; have f5_ := f3_.symm; clear f1_ f2_ f3_; subst f4_; subst f5_))
    obtain ⟨Ao24, co24, eo24⟩ := Kd.S_slice HO516.out
    (first | subst eo24 | (injection eo24 with f1_ f2_ f3_; have f4_ := f1_.symm; have f5_ := f3_.symm; clear f1_ f2_ f3_; subst f4_; subst f5_))
    obtain ⟨Ao25, co25, eo25⟩ := Kd.R_slice HO519.out
    (first | subst eo25 | (injection eo25 with f1_ f2_ f3_; have f4_ := f1_.symm; have f5_ := f3_.symm; clear f1_ f2_ f3_; subst f4_; subst f5_))
    refine hK.out _ _ ⟨(bC_ BK502.out 0).trans rfl, (bC_ BK502.out 1).trans rfl, (bC_ BK502.out 2).trans rfl, (bC_ BK502.out 3).trans rfl, (bC_ BK502.out 4).trans rfl, (bC_ BK502.out 5).trans rfl, (bC_ BK502.out 6).trans rfl, (bC_ BK502.out 7).trans rfl⟩ (fun hHeld => ?_)
    clear hK K
    refine norm_ (a' := ?_) ?_ ?_
    rotate_left
    ·show Act.put _ (some 10) _ = _
     simp only [Act.put, sA_, sB_, sC_, i64_w, i32_w]
     rfl
    refine one_ (i := 2) (N := some 11) #[true, true, true, true, false, false, false, false] rfl rfl (one_of HT_.out (by kernel_rfl)) (by decide) (fun K hK => ?_)
    refine goes_ Try.func27 (by kernel_rfl) rfl #[.agg #[.string t505, .slice Ao22 t506.length co22, .string t509, .string t510, .slice Ao23 t511.length co23, .slice Ao24 t514.length co24, .slice Ao25 t517.length co25, .string t520]] (by rfl) rfl rfl (by (try simp only [List.map_toArray, List.map_cons, List.map_nil]); first | done | rfl | (simp only [List.length_drop, List.length_take]; rfl)) ?_
    with_reducible refine (tag_Subtags.calls t505 _ _ t506 t509 t510 _ _ t511 _ _ t514 _ _ t517 t520 t521 _ ?side1 ?side2 ?side3 ?side4 ?side5 ?side6 ?side7 ?side8 A5.out).mono ?_
    (case side1 => repeat (first | exact (rR_ HO508.out).2.2 | (with_reducible refine cA_ ?_ _) | (with_reducible refine cN_ ?_ _) | (with_reducible refine cD_ ?_)))
    (case side2 => exact (rR_ HO508.out).2.1)
    (case side3 => repeat (first | exact (rR_ HO513.out).2.2 | (with_reducible refine cA_ ?_ _) | (with_reducible refine cN_ ?_ _) | (with_reducible refine cD_ ?_)))
    (case side4 => exact (rR_ HO513.out).2.1)
    (case side5 => repeat (first | exact (Kd.S_reads' HO516.out).2.2 | (with_reducible refine cA_ ?_ _) | (with_reducible refine cN_ ?_ _) | (with_reducible refine cD_ ?_)))
    (case side6 => exact (Kd.S_reads' HO516.out).2.1)
    (case side7 => repeat (first | exact (rR_ HO519.out).2.2 | (with_reducible refine cA_ ?_ _) | (with_reducible refine cN_ ?_ _) | (with_reducible refine cD_ ?_)))
    (case side8 => exact (rR_ HO519.out).2.1)
    rintro e w26 ⟨v522, rfl, ho0, hb⟩
    refine ⟨_, rfl, ?_⟩
    have n0_ := Aside0.mk (rL_ (by (with_reducible repeat (first | apply rA_ | apply rN_ | apply rD_)); exact HO508.out) (Kd.R_base ho0) hb)
    have n1_ := Aside0.mk (rL_ (by (with_reducible repeat (first | apply rA_ | apply rN_ | apply rD_)); exact HO513.out) (Kd.R_base ho0) hb)
    have n2_ := Aside0.mk (Kd.S_elder' (by (with_reducible repeat (first | apply tA_ | apply tN_ | apply tD_)); exact HO516.out) (Kd.R_base ho0) hb)
    have n3_ := Aside0.mk (rL_ (by (with_reducible repeat (first | apply rA_ | apply rN_ | apply rD_)); exact HO519.out) (Kd.R_base ho0) hb)
    have n4_ := Aside0.mk (Kd.R_lower (Kd.R_new' (Kd.R_new' (Kd.R_new' ho0 (rT_ (by (with_reducible repeat (first | apply rA_ | apply rN_ | apply rD_)); exact HO508.out))) (rT_ (by (with_reducible repeat (first | apply rA_ | apply rN_ | apply rD_)); exact HO513.out))) (rT_ (by (with_reducible repeat (first | apply rA_ | apply rN_ | apply rD_)); exact HO519.out))) (wZ_ (by repeat (first | (with_reducible first | exact HB.out | apply wA_ | apply wN_ | apply wD_ | refine wS_ ?_ GE502.out | refine wS_ ?_ GE503.out) | exact HB.out))))
    have n5_ := Aside0.mk (blk_below (g := gb502) (o := .cells #[.string a0_0, .slice A0_1 l0_1.length c0_1, .string a0_2, .string a0_3, .slice A0_4 l0_4.length c0_4, .slice A0_5 l0_5.length c0_5, .slice A0_6 l0_6.length c0_6, .string a0_7] 28 (0, 0)) (by (with_reducible repeat (first | refine bN_ ?_ _ | refine bD_ ?_ | refine bA_ ?_ _)); exact BK502.out) hb)
    have n6_ := Aside0.mk (blk_below (g := gb503) (o := .cells #[.int .i64 a1_0, .int .i64 a1_1, .int .i64 a1_2, .int .i64 a1_3, .slice A1_4 l1_4.length c1_4, .slice A1_5 l1_5.length c1_5, .slice A1_6 l1_6.length c1_6, .int .i64 a1_7] 24 (0, 0)) (by (with_reducible repeat (first | refine bN_ ?_ _ | refine bD_ ?_ | refine bA_ ?_ _)); exact BK503.out) hb)
    have n7_ := Aside0.mk (wT_ (by repeat (first | (with_reducible first | exact HB.out | apply wA_ | apply wN_ | apply wD_ | refine wS_ ?_ GE502.out | refine wS_ ?_ GE503.out) | exact HB.out)) hb)
    clear HO508 HO513 HO516 HO519 BK502 BK503 HB
    have HO508 := n0_; have HO513 := n1_; have HO516 := n2_; have HO519 := n3_; have HO523 := n4_; have BK502 := n5_; have BK503 := n6_; have HB := n7_
    clear n0_ n1_ n2_ n3_ n4_ n5_ n6_ n7_
    (try clear hb); (try clear hb2); (try clear hk); (try clear hi); (try clear ho0)
    refine hK.out _ _ ⟨(bC_ BK502.out 0).trans rfl, (bC_ BK502.out 1).trans rfl, (bC_ BK502.out 2).trans rfl, (bC_ BK502.out 3).trans rfl, (bC_ BK502.out 4).trans rfl, (bC_ BK502.out 5).trans rfl, (bC_ BK502.out 6).trans rfl, (bC_ BK502.out 7).trans rfl⟩ (fun hHeld => ?_)
    clear hK K
    refine norm_ (a' := ?_) ?_ ?_
    rotate_left
    ·show Act.put _ (some 11) _ = _
     simp only [Act.put, sA_, sB_, sC_, i64_w, i32_w]
     rfl
    refine one_ (i := 4) (N := some 13) #[true, true, true, true, true, false, false, false] rfl rfl (one_of HT_.out (by kernel_rfl)) (by decide) (fun K hK => ?_)
    refine goes_ Try.func11 (by kernel_rfl) rfl #[.agg #[.string a0_0, .slice A0_1 l0_1.length c0_1, .string a0_2, .string a0_3, .slice A0_4 l0_4.length c0_4, .slice A0_5 l0_5.length c0_5, .slice A0_6 l0_6.length c0_6, .string a0_7]] (by rfl) rfl rfl (by (try simp only [List.map_toArray, List.map_cons, List.map_nil]); first | done | rfl | (simp only [List.length_drop, List.length_take]; rfl)) ?_
    with_reducible refine (isoglosslaw06_few.calls k a0_0 _ _ l0_1 a0_2 a0_3 _ _ l0_4 _ _ l0_5 _ _ l0_6 a0_7 t524 t525 t528 t529 t530 t533 t536 t539 _ ?side1 ?side2 ?side3 ?side4 ?side5 ?side6 ?side7 ?side8 A6.out).mono ?_
    (case side1 => repeat (first | exact (cB_ HR0_1.out HB.out) | (with_reducible refine cA_ ?_ _) | (with_reducible refine cN_ ?_ _) | (with_reducible refine cD_ ?_)))
    (case side2 => exact HC0_1.out)
    (case side3 => repeat (first | exact (cB_ HR0_4.out HB.out) | (with_reducible refine cA_ ?_ _) | (with_reducible refine cN_ ?_ _) | (with_reducible refine cD_ ?_)))
    (case side4 => exact HC0_4.out)
    (case side5 => repeat (first | exact (cB_ HR0_5.out HB.out) | (with_reducible refine cA_ ?_ _) | (with_reducible refine cN_ ?_ _) | (with_reducible refine cD_ ?_)))
    (case side6 => exact HC0_5.out)
    (case side7 => repeat (first | exact (cB_ HR0_6.out HB.out) | (with_reducible refine cA_ ?_ _) | (with_reducible refine cN_ ?_ _) | (with_reducible refine cD_ ?_)))
    (case side8 => exact HC0_6.out)
    rintro e w27 ⟨v526, v531, v534, v537, rfl, ho0, ho1, ho2, ho3, hb⟩
    refine ⟨_, rfl, ?_⟩
    have n0_ := Aside0.mk (rM_ (Kd.R_told (Kd.R_told (Kd.R_told (Kd.R_old (by (with_reducible repeat (first | apply rA_ | apply rN_ | apply rD_)); exact HO508.out) hb) (Kd.R_base ho0)) (Kd.R_base ho1)) (Kd.R_base ho3)) (fun _ h_ => (by first | exact h_.1 | exact ⟨trivial, h_.1⟩)))
    have n1_ := Aside0.mk (rM_ (Kd.R_told (Kd.R_told (Kd.R_told (Kd.R_old (by (with_reducible repeat (first | apply rA_ | apply rN_ | apply rD_)); exact HO513.out) hb) (Kd.R_base ho0)) (Kd.R_base ho1)) (Kd.R_base ho3)) (fun _ h_ => (by first | exact h_.1 | exact ⟨trivial, h_.1⟩)))
    have n2_ := Aside0.mk (Kd.S_mono (Kd.S_told (Kd.S_told (Kd.S_told (Kd.S_told (Kd.S_old (by (with_reducible repeat (first | apply tA_ | apply tN_ | apply tD_)); exact HO516.out) hb) (Kd.R_base ho0)) (Kd.R_base ho1)) (Kd.S_base ho2)) (Kd.R_base ho3)) (fun _ h_ => (by first | exact h_.1 | exact ⟨trivial, h_.1⟩)))
    have n3_ := Aside0.mk (rM_ (Kd.R_told (Kd.R_told (Kd.R_told (Kd.R_old (by (with_reducible repeat (first | apply rA_ | apply rN_ | apply rD_)); exact HO519.out) hb) (Kd.R_base ho0)) (Kd.R_base ho1)) (Kd.R_base ho3)) (fun _ h_ => (by first | exact h_.1 | exact ⟨trivial, h_.1⟩)))
    have n4_ := Aside0.mk (rM_ (Kd.R_told (Kd.R_told (Kd.R_told (Kd.R_old (by (with_reducible repeat (first | apply rA_ | apply rN_ | apply rD_)); exact HO523.out) hb) (Kd.R_base ho0)) (Kd.R_base ho1)) (Kd.R_base ho3)) (fun _ h_ => (by first | exact h_.1 | exact ⟨trivial, h_.1⟩)))
    have n5_ := Aside0.mk (Kd.R_lower (Kd.R_new' (Kd.R_new' (Kd.R_new' (Kd.R_new' ho0 (rT_ (by (with_reducible repeat (first | apply rA_ | apply rN_ | apply rD_)); exact HO508.out))) (rT_ (by (with_reducible repeat (first | apply rA_ | apply rN_ | apply rD_)); exact HO513.out))) (rT_ (by (with_reducible repeat (first | apply rA_ | apply rN_ | apply rD_)); exact HO519.out))) (rT_ (by (with_reducible repeat (first | apply rA_ | apply rN_ | apply rD_)); exact HO523.out))) (wZ_ (by repeat (first | (with_reducible first | exact HB.out | apply wA_ | apply wN_ | apply wD_ | refine wS_ ?_ GE502.out | refine wS_ ?_ GE503.out) | exact HB.out))))
    have n6_ := Aside0.mk (Kd.R_lower (Kd.R_new' (Kd.R_new' (Kd.R_new' (Kd.R_new' ho1 (rT_ (by (with_reducible repeat (first | apply rA_ | apply rN_ | apply rD_)); exact HO508.out))) (rT_ (by (with_reducible repeat (first | apply rA_ | apply rN_ | apply rD_)); exact HO513.out))) (rT_ (by (with_reducible repeat (first | apply rA_ | apply rN_ | apply rD_)); exact HO519.out))) (rT_ (by (with_reducible repeat (first | apply rA_ | apply rN_ | apply rD_)); exact HO523.out))) (wZ_ (by repeat (first | (with_reducible first | exact HB.out | apply wA_ | apply wN_ | apply wD_ | refine wS_ ?_ GE502.out | refine wS_ ?_ GE503.out) | exact HB.out))))
    have n7_ := Aside0.mk (Kd.S_lower (Kd.S_new' (Kd.S_new' (Kd.S_new' (Kd.S_new' (Kd.S_new' ho2 (rT_ (by (with_reducible repeat (first | apply rA_ | apply rN_ | apply rD_)); exact HO508.out))) (rT_ (by (with_reducible repeat (first | apply rA_ | apply rN_ | apply rD_)); exact HO513.out))) (Kd.S_lt (by (with_reducible repeat (first | apply tA_ | apply tN_ | apply tD_)); exact HO516.out))) (rT_ (by (with_reducible repeat (first | apply rA_ | apply rN_ | apply rD_)); exact HO519.out))) (rT_ (by (with_reducible repeat (first | apply rA_ | apply rN_ | apply rD_)); exact HO523.out))) (wZ_ (by repeat (first | (with_reducible first | exact HB.out | apply wA_ | apply wN_ | apply wD_ | refine wS_ ?_ GE502.out | refine wS_ ?_ GE503.out) | exact HB.out))))
    have n8_ := Aside0.mk (Kd.R_lower (Kd.R_new' (Kd.R_new' (Kd.R_new' (Kd.R_new' ho3 (rT_ (by (with_reducible repeat (first | apply rA_ | apply rN_ | apply rD_)); exact HO508.out))) (rT_ (by (with_reducible repeat (first | apply rA_ | apply rN_ | apply rD_)); exact HO513.out))) (rT_ (by (with_reducible repeat (first | apply rA_ | apply rN_ | apply rD_)); exact HO519.out))) (rT_ (by (with_reducible repeat (first | apply rA_ | apply rN_ | apply rD_)); exact HO523.out))) (wZ_ (by repeat (first | (with_reducible first | exact HB.out | apply wA_ | apply wN_ | apply wD_ | refine wS_ ?_ GE502.out | refine wS_ ?_ GE503.out) | exact HB.out))))
    have n9_ := Aside0.mk (blk_below (g := gb502) (o := .cells #[.string a0_0, .slice A0_1 l0_1.length c0_1, .string a0_2, .string a0_3, .slice A0_4 l0_4.length c0_4, .slice A0_5 l0_5.length c0_5, .slice A0_6 l0_6.length c0_6, .string a0_7] 28 (0, 0)) (by (with_reducible repeat (first | refine bN_ ?_ _ | refine bD_ ?_ | refine bA_ ?_ _)); exact BK502.out) hb)
    have n10_ := Aside0.mk (blk_below (g := gb503) (o := .cells #[.int .i64 a1_0, .int .i64 a1_1, .int .i64 a1_2, .int .i64 a1_3, .slice A1_4 l1_4.length c1_4, .slice A1_5 l1_5.length c1_5, .slice A1_6 l1_6.length c1_6, .int .i64 a1_7] 24 (0, 0)) (by (with_reducible repeat (first | refine bN_ ?_ _ | refine bD_ ?_ | refine bA_ ?_ _)); exact BK503.out) hb)
    have n11_ := Aside0.mk (wT_ (by repeat (first | (with_reducible first | exact HB.out | apply wA_ | apply wN_ | apply wD_ | refine wS_ ?_ GE502.out | refine wS_ ?_ GE503.out) | exact HB.out)) hb)
    clear HO508 HO513 HO516 HO519 HO523 BK502 BK503 HB
    have HO508 := n0_; have HO513 := n1_; have HO516 := n2_; have HO519 := n3_; have HO523 := n4_; have HO527 := n5_; have HO532 := n6_; have HO535 := n7_; have HO538 := n8_; have BK502 := n9_; have BK503 := n10_; have HB := n11_
    clear n0_ n1_ n2_ n3_ n4_ n5_ n6_ n7_ n8_ n9_ n10_ n11_
    (try clear hb); (try clear hb2); (try clear hk); (try clear hi); (try clear ho0); (try clear ho1); (try clear ho2); (try clear ho3)
    obtain ⟨Ao28, co28, eo28⟩ := Kd.R_slice HO527.out
    (first | subst eo28 | (injection eo28 with f1_ f2_ f3_; have f4_ := f1_.symm; have f5_ := f3_.symm; clear f1_ f2_ f3_; subst f4_; subst f5_))
    obtain ⟨Ao29, co29, eo29⟩ := Kd.R_slice HO532.out
    (first | subst eo29 | (injection eo29 with f1_ f2_ f3_; have f4_ := f1_.symm; have f5_ := f3_.symm; clear f1_ f2_ f3_; subst f4_; subst f5_))
    obtain ⟨Ao30, co30, eo30⟩ := Kd.S_slice HO535.out
    (first | subst eo30 | (injection eo30 with f1_ f2_ f3_; have f4_ := f1_.symm; have f5_ := f3_.symm; clear f1_ f2_ f3_; subst f4_; subst f5_))
    obtain ⟨Ao31, co31, eo31⟩ := Kd.R_slice HO538.out
    (first | subst eo31 | (injection eo31 with f1_ f2_ f3_; have f4_ := f1_.symm; have f5_ := f3_.symm; clear f1_ f2_ f3_; subst f4_; subst f5_))
    refine hK.out _ _ ⟨(bC_ BK502.out 0).trans rfl, (bC_ BK502.out 1).trans rfl, (bC_ BK502.out 2).trans rfl, (bC_ BK502.out 3).trans rfl, (bC_ BK502.out 4).trans rfl, (bC_ BK502.out 5).trans rfl, (bC_ BK502.out 6).trans rfl, (bC_ BK502.out 7).trans rfl⟩ (fun hHeld => ?_)
    clear hK K
    refine norm_ (a' := ?_) ?_ ?_
    rotate_left
    ·show Act.put _ (some 13) _ = _
     simp only [Act.put, sA_, sB_, sC_, i64_w, i32_w]
     rfl
    refine one_ (i := 5) (N := some 14) #[true, true, true, true, true, true, false, false] rfl rfl (one_of HT_.out (by kernel_rfl)) (by decide) (fun K hK => ?_)
    refine goes_ Try.func28 (by kernel_rfl) rfl #[.agg #[.string t524, .slice Ao28 t525.length co28, .string t528, .string t529, .slice Ao29 t530.length co29, .slice Ao30 t533.length co30, .slice Ao31 t536.length co31, .string t539]] (by rfl) rfl rfl (by (try simp only [List.map_toArray, List.map_cons, List.map_nil]); first | done | rfl | (simp only [List.length_drop, List.length_take]; rfl)) ?_
    with_reducible refine (isoglossref06_Subtags.calls k t524 _ _ t525 t528 t529 _ _ t530 _ _ t533 _ _ t536 t539 t540 _ ?side1 ?side2 ?side3 ?side4 ?side5 ?side6 ?side7 ?side8 A7.out).mono ?_
    (case side1 => repeat (first | exact (rR_ HO527.out).2.2 | (with_reducible refine cA_ ?_ _) | (with_reducible refine cN_ ?_ _) | (with_reducible refine cD_ ?_)))
    (case side2 => exact (rR_ HO527.out).2.1)
    (case side3 => repeat (first | exact (rR_ HO532.out).2.2 | (with_reducible refine cA_ ?_ _) | (with_reducible refine cN_ ?_ _) | (with_reducible refine cD_ ?_)))
    (case side4 => exact (rR_ HO532.out).2.1)
    (case side5 => repeat (first | exact (Kd.S_reads' HO535.out).2.2 | (with_reducible refine cA_ ?_ _) | (with_reducible refine cN_ ?_ _) | (with_reducible refine cD_ ?_)))
    (case side6 => exact (Kd.S_reads' HO535.out).2.1)
    (case side7 => repeat (first | exact (rR_ HO538.out).2.2 | (with_reducible refine cA_ ?_ _) | (with_reducible refine cN_ ?_ _) | (with_reducible refine cD_ ?_)))
    (case side8 => exact (rR_ HO538.out).2.1)
    rintro e w32 ⟨v541, rfl, ho0, hb⟩
    refine ⟨_, rfl, ?_⟩
    have n0_ := Aside0.mk (rL_ (by (with_reducible repeat (first | apply rA_ | apply rN_ | apply rD_)); exact HO508.out) (Kd.R_base ho0) hb)
    have n1_ := Aside0.mk (rL_ (by (with_reducible repeat (first | apply rA_ | apply rN_ | apply rD_)); exact HO513.out) (Kd.R_base ho0) hb)
    have n2_ := Aside0.mk (Kd.S_elder' (by (with_reducible repeat (first | apply tA_ | apply tN_ | apply tD_)); exact HO516.out) (Kd.R_base ho0) hb)
    have n3_ := Aside0.mk (rL_ (by (with_reducible repeat (first | apply rA_ | apply rN_ | apply rD_)); exact HO519.out) (Kd.R_base ho0) hb)
    have n4_ := Aside0.mk (rL_ (by (with_reducible repeat (first | apply rA_ | apply rN_ | apply rD_)); exact HO523.out) (Kd.R_base ho0) hb)
    have n5_ := Aside0.mk (rL_ (by (with_reducible repeat (first | apply rA_ | apply rN_ | apply rD_)); exact HO527.out) (Kd.R_base ho0) hb)
    have n6_ := Aside0.mk (rL_ (by (with_reducible repeat (first | apply rA_ | apply rN_ | apply rD_)); exact HO532.out) (Kd.R_base ho0) hb)
    have n7_ := Aside0.mk (Kd.S_elder' (by (with_reducible repeat (first | apply tA_ | apply tN_ | apply tD_)); exact HO535.out) (Kd.R_base ho0) hb)
    have n8_ := Aside0.mk (rL_ (by (with_reducible repeat (first | apply rA_ | apply rN_ | apply rD_)); exact HO538.out) (Kd.R_base ho0) hb)
    have n9_ := Aside0.mk (Kd.R_lower (Kd.R_new' (Kd.R_new' (Kd.R_new' (Kd.R_new' (Kd.R_new' (Kd.R_new' (Kd.R_new' ho0 (rT_ (by (with_reducible repeat (first | apply rA_ | apply rN_ | apply rD_)); exact HO508.out))) (rT_ (by (with_reducible repeat (first | apply rA_ | apply rN_ | apply rD_)); exact HO513.out))) (rT_ (by (with_reducible repeat (first | apply rA_ | apply rN_ | apply rD_)); exact HO519.out))) (rT_ (by (with_reducible repeat (first | apply rA_ | apply rN_ | apply rD_)); exact HO523.out))) (rT_ (by (with_reducible repeat (first | apply rA_ | apply rN_ | apply rD_)); exact HO527.out))) (rT_ (by (with_reducible repeat (first | apply rA_ | apply rN_ | apply rD_)); exact HO532.out))) (rT_ (by (with_reducible repeat (first | apply rA_ | apply rN_ | apply rD_)); exact HO538.out))) (wZ_ (by repeat (first | (with_reducible first | exact HB.out | apply wA_ | apply wN_ | apply wD_ | refine wS_ ?_ GE502.out | refine wS_ ?_ GE503.out) | exact HB.out))))
    have n10_ := Aside0.mk (blk_below (g := gb502) (o := .cells #[.string a0_0, .slice A0_1 l0_1.length c0_1, .string a0_2, .string a0_3, .slice A0_4 l0_4.length c0_4, .slice A0_5 l0_5.length c0_5, .slice A0_6 l0_6.length c0_6, .string a0_7] 28 (0, 0)) (by (with_reducible repeat (first | refine bN_ ?_ _ | refine bD_ ?_ | refine bA_ ?_ _)); exact BK502.out) hb)
    have n11_ := Aside0.mk (blk_below (g := gb503) (o := .cells #[.int .i64 a1_0, .int .i64 a1_1, .int .i64 a1_2, .int .i64 a1_3, .slice A1_4 l1_4.length c1_4, .slice A1_5 l1_5.length c1_5, .slice A1_6 l1_6.length c1_6, .int .i64 a1_7] 24 (0, 0)) (by (with_reducible repeat (first | refine bN_ ?_ _ | refine bD_ ?_ | refine bA_ ?_ _)); exact BK503.out) hb)
    have n12_ := Aside0.mk (wT_ (by repeat (first | (with_reducible first | exact HB.out | apply wA_ | apply wN_ | apply wD_ | refine wS_ ?_ GE502.out | refine wS_ ?_ GE503.out) | exact HB.out)) hb)
    clear HO508 HO513 HO516 HO519 HO523 HO527 HO532 HO535 HO538 BK502 BK503 HB
    have HO508 := n0_; have HO513 := n1_; have HO516 := n2_; have HO519 := n3_; have HO523 := n4_; have HO527 := n5_; have HO532 := n6_; have HO535 := n7_; have HO538 := n8_; have HO542 := n9_; have BK502 := n10_; have BK503 := n11_; have HB := n12_
    clear n0_ n1_ n2_ n3_ n4_ n5_ n6_ n7_ n8_ n9_ n10_ n11_ n12_
    (try clear hb); (try clear hb2); (try clear hk); (try clear hi); (try clear ho0)
    obtain ⟨Ao33, co33, eo33⟩ := Kd.R_slice HO523.out
    (first | subst eo33 | (injection eo33 with f1_ f2_ f3_; have f4_ := f1_.symm; have f5_ := f3_.symm; clear f1_ f2_ f3_; subst f4_; subst f5_))
    obtain ⟨Ao34, co34, eo34⟩ := Kd.R_slice HO542.out
    (first | subst eo34 | (injection eo34 with f1_ f2_ f3_; have f4_ := f1_.symm; have f5_ := f3_.symm; clear f1_ f2_ f3_; subst f4_; subst f5_))
    refine hK.out _ _ ⟨(bC_ BK502.out 0).trans rfl, (bC_ BK502.out 1).trans rfl, (bC_ BK502.out 2).trans rfl, (bC_ BK502.out 3).trans rfl, (bC_ BK502.out 4).trans rfl, (bC_ BK502.out 5).trans rfl, (bC_ BK502.out 6).trans rfl, (bC_ BK502.out 7).trans rfl⟩ (fun hHeld => ?_)
    clear hK K
    refine norm_ (a' := ?_) ?_ ?_
    rotate_left
    ·show Act.put _ (some 14) _ = _
     simp only [Act.put, sA_, sB_, sC_, i64_w, i32_w]
     rfl
    refine one_ (i := 6) (N := some 15) #[true, true, true, true, true, true, true, false] rfl rfl (one_of HT_.out (by kernel_rfl)) (by decide) (fun K hK => ?_)
    refine goes_ Try.func26 (by kernel_rfl) rfl #[.slice Ao33 t521.length co33, .slice Ao34 t540.length co34] (by rfl) rfl rfl (by (try simp only [List.map_toArray, List.map_cons, List.map_nil]); first | done | rfl | (simp only [List.length_drop, List.length_take]; rfl)) ?_
    with_reducible refine (isoglossref04_Same.calls k _ _ t521 _ _ t540 true _ ?side1 ?side2 ?side3 ?side4 A8.out).mono ?_
    (case side1 => repeat (first | exact (rR_ HO523.out).2.2 | (with_reducible refine cA_ ?_ _) | (with_reducible refine cN_ ?_ _) | (with_reducible refine cD_ ?_)))
    (case side2 => exact (rR_ HO523.out).2.1)
    (case side3 => repeat (first | exact (rR_ HO542.out).2.2 | (with_reducible refine cA_ ?_ _) | (with_reducible refine cN_ ?_ _) | (with_reducible refine cD_ ?_)))
    (case side4 => exact (rR_ HO542.out).2.1)
    rintro e w' ⟨rfl, ⟨nd, rfl⟩⟩
    refine ⟨_, rfl, ?_⟩
    refine hK.out _ _ ⟨(bC_ BK502.out 0).trans rfl, (bC_ BK502.out 1).trans rfl, (bC_ BK502.out 2).trans rfl, (bC_ BK502.out 3).trans rfl, (bC_ BK502.out 4).trans rfl, (bC_ BK502.out 5).trans rfl, (bC_ BK502.out 6).trans rfl, (bC_ BK502.out 7).trans rfl⟩ (fun hHeld => ?_)
    clear hK K
    refine norm_ (a' := ?_) ?_ ?_
    rotate_left
    ·show Act.put _ (some 15) _ = _
     simp only [Act.put, sA_, sB_, sC_, i64_w, i32_w]
     rfl
    refine pure_ (i := 7) (N := some 6) (v := ?_) (a' := ?_) #[true, true, true, true, true, true, true, true] rfl rfl (any_of HT_.out (by kernel_rfl)) (fun _ _ _ h => h) (Or.inl ⟨by rfl, ?_⟩) ?_ ?_
    rotate_left
    ·intro w'
     go_simp
     with_reducible rfl
    rotate_left
    ·simp only [Act.put, sA_, sB_, sC_, i64_w, i32_w]
     rfl
    refine done_ (done_of HT_.out (by kernel_rfl)) ?_
    try go_wp2
    (try (rw [drewN_self w32]; generalize hq_ : World.drewN w32 _ = w32; have n0_ : Aside0 (Kd.R Kd.string 9 w32 w.heap.size (fun k_ => some k_ ≠ (.slice Ao23 t511.length co23 : Value).ownBlock ∧ some k_ ≠ (.slice Ao25 t517.length co25 : Value).ownBlock ∧ some k_ ≠ (.slice Ao33 t521.length co33 : Value).ownBlock ∧ some k_ ≠ (.slice Ao28 t525.length co28 : Value).ownBlock ∧ some k_ ≠ (.slice Ao29 t530.length co29 : Value).ownBlock ∧ some k_ ≠ (.slice Ao31 t536.length co31 : Value).ownBlock ∧ some k_ ≠ (.slice Ao34 t540.length co34 : Value).ownBlock) (.slice Ao22 t506.length co22) t506) := ⟨by rw [← hq_]; exact (by (with_reducible repeat (first | apply rA_ | apply rN_ | apply rD_)); exact rM_ HO508.out (fun _ hk => ⟨hk.1.1.1.1.1.1, ⟨hk.1.1.1.1.1.2, ⟨hk.1.1.1.1.2, ⟨hk.1.1.1.2, ⟨hk.1.1.2, ⟨hk.1.2, hk.2⟩⟩⟩⟩⟩⟩))⟩; have n1_ : Aside0 (Kd.R Kd.string 9 w32 w.heap.size (fun k_ => some k_ ≠ (.slice Ao22 t506.length co22 : Value).ownBlock ∧ some k_ ≠ (.slice Ao25 t517.length co25 : Value).ownBlock ∧ some k_ ≠ (.slice Ao33 t521.length co33 : Value).ownBlock ∧ some k_ ≠ (.slice Ao28 t525.length co28 : Value).ownBlock ∧ some k_ ≠ (.slice Ao29 t530.length co29 : Value).ownBlock ∧ some k_ ≠ (.slice Ao31 t536.length co31 : Value).ownBlock ∧ some k_ ≠ (.slice Ao34 t540.length co34 : Value).ownBlock) (.slice Ao23 t511.length co23) t511) := ⟨by rw [← hq_]; exact (by (with_reducible repeat (first | apply rA_ | apply rN_ | apply rD_)); exact rM_ HO513.out (fun _ hk => ⟨hk.1.1.1.1.1.1, ⟨hk.1.1.1.1.1.2, ⟨hk.1.1.1.1.2, ⟨hk.1.1.1.2, ⟨hk.1.1.2, ⟨hk.1.2, hk.2⟩⟩⟩⟩⟩⟩))⟩; have n2_ : Aside0 (Kd.S k44 44 w32 w.heap.size (fun k_ => some k_ ≠ (.slice Ao22 t506.length co22 : Value).ownBlock ∧ some k_ ≠ (.slice Ao23 t511.length co23 : Value).ownBlock ∧ some k_ ≠ (.slice Ao25 t517.length co25 : Value).ownBlock ∧ some k_ ≠ (.slice Ao33 t521.length co33 : Value).ownBlock ∧ some k_ ≠ (.slice Ao28 t525.length co28 : Value).ownBlock ∧ some k_ ≠ (.slice Ao29 t530.length co29 : Value).ownBlock ∧ some k_ ≠ (.slice Ao30 t533.length co30 : Value).ownBlock ∧ some k_ ≠ (.slice Ao31 t536.length co31 : Value).ownBlock ∧ some k_ ≠ (.slice Ao34 t540.length co34 : Value).ownBlock) (.slice Ao24 t514.length co24) t514) := ⟨by rw [← hq_]; exact (by (with_reducible repeat (first | apply tA_ | apply tN_ | apply tD_)); exact Kd.S_mono HO516.out (fun _ hk => ⟨hk.1.1.1.1.1.1.1, ⟨hk.1.1.1.1.1.1.2.1, ⟨hk.1.1.1.1.1.1.2.2, ⟨hk.1.1.1.1.1.2, ⟨hk.1.1.1.1.2, ⟨hk.1.1.1.2, ⟨hk.1.1.2, ⟨hk.1.2, hk.2⟩⟩⟩⟩⟩⟩⟩⟩))⟩; have n3_ : Aside0 (Kd.R Kd.string 9 w32 w.heap.size (fun k_ => some k_ ≠ (.slice Ao22 t506.length co22 : Value).ownBlock ∧ some k_ ≠ (.slice Ao23 t511.length co23 : Value).ownBlock ∧ some k_ ≠ (.slice Ao33 t521.length co33 : Value).ownBlock ∧ some k_ ≠ (.slice Ao28 t525.length co28 : Value).ownBlock ∧ some k_ ≠ (.slice Ao29 t530.length co29 : Value).ownBlock ∧ some k_ ≠ (.slice Ao31 t536.length co31 : Value).ownBlock ∧ some k_ ≠ (.slice Ao34 t540.length co34 : Value).ownBlock) (.slice Ao25 t517.length co25) t517) := ⟨by rw [← hq_]; exact (by (with_reducible repeat (first | apply rA_ | apply rN_ | apply rD_)); exact rM_ HO519.out (fun _ hk => ⟨hk.1.1.1.1.1.1, ⟨hk.1.1.1.1.1.2, ⟨hk.1.1.1.1.2, ⟨hk.1.1.1.2, ⟨hk.1.1.2, ⟨hk.1.2, hk.2⟩⟩⟩⟩⟩⟩))⟩; have n4_ : Aside0 (Kd.R Kd.string 9 w32 w.heap.size (fun k_ => some k_ ≠ (.slice Ao22 t506.length co22 : Value).ownBlock ∧ some k_ ≠ (.slice Ao23 t511.length co23 : Value).ownBlock ∧ some k_ ≠ (.slice Ao25 t517.length co25 : Value).ownBlock ∧ some k_ ≠ (.slice Ao28 t525.length co28 : Value).ownBlock ∧ some k_ ≠ (.slice Ao29 t530.length co29 : Value).ownBlock ∧ some k_ ≠ (.slice Ao31 t536.length co31 : Value).ownBlock ∧ some k_ ≠ (.slice Ao34 t540.length co34 : Value).ownBlock) (.slice Ao33 t521.length co33) t521) := ⟨by rw [← hq_]; exact (by (with_reducible repeat (first | apply rA_ | apply rN_ | apply rD_)); exact rM_ HO523.out (fun _ hk => ⟨hk.1.1.1.1.1.1.2, ⟨hk.1.1.1.1.1.2, ⟨hk.1.1.1.1.2, ⟨hk.1.1.1.2, ⟨hk.1.1.2, ⟨hk.1.2, hk.2⟩⟩⟩⟩⟩⟩))⟩; have n5_ : Aside0 (Kd.R Kd.string 9 w32 w.heap.size (fun k_ => some k_ ≠ (.slice Ao22 t506.length co22 : Value).ownBlock ∧ some k_ ≠ (.slice Ao23 t511.length co23 : Value).ownBlock ∧ some k_ ≠ (.slice Ao25 t517.length co25 : Value).ownBlock ∧ some k_ ≠ (.slice Ao33 t521.length co33 : Value).ownBlock ∧ some k_ ≠ (.slice Ao29 t530.length co29 : Value).ownBlock ∧ some k_ ≠ (.slice Ao31 t536.length co31 : Value).ownBlock ∧ some k_ ≠ (.slice Ao34 t540.length co34 : Value).ownBlock) (.slice Ao28 t525.length co28) t525) := ⟨by rw [← hq_]; exact (by (with_reducible repeat (first | apply rA_ | apply rN_ | apply rD_)); exact rM_ HO527.out (fun _ hk => ⟨hk.1.1.1.1.2, ⟨hk.1.1.1.2, ⟨hk.1.1.2, ⟨hk.1.2, ⟨hk.1.1.1.1.1.1, ⟨hk.1.1.1.1.1.2, hk.2⟩⟩⟩⟩⟩⟩))⟩; have n6_ : Aside0 (Kd.R Kd.string 9 w32 w.heap.size (fun k_ => some k_ ≠ (.slice Ao22 t506.length co22 : Value).ownBlock ∧ some k_ ≠ (.slice Ao23 t511.length co23 : Value).ownBlock ∧ some k_ ≠ (.slice Ao25 t517.length co25 : Value).ownBlock ∧ some k_ ≠ (.slice Ao33 t521.length co33 : Value).ownBlock ∧ some k_ ≠ (.slice Ao28 t525.length co28 : Value).ownBlock ∧ some k_ ≠ (.slice Ao31 t536.length co31 : Value).ownBlock ∧ some k_ ≠ (.slice Ao34 t540.length co34 : Value).ownBlock) (.slice Ao29 t530.length co29) t530) := ⟨by rw [← hq_]; exact (by (with_reducible repeat (first | apply rA_ | apply rN_ | apply rD_)); exact rM_ HO532.out (fun _ hk => ⟨hk.1.1.1.1.2, ⟨hk.1.1.1.2, ⟨hk.1.1.2, ⟨hk.1.2, ⟨hk.1.1.1.1.1.1, ⟨hk.1.1.1.1.1.2, hk.2⟩⟩⟩⟩⟩⟩))⟩; have n7_ : Aside0 (Kd.S k44 44 w32 w.heap.size (fun k_ => some k_ ≠ (.slice Ao22 t506.length co22 : Value).ownBlock ∧ some k_ ≠ (.slice Ao23 t511.length co23 : Value).ownBlock ∧ some k_ ≠ (.slice Ao24 t514.length co24 : Value).ownBlock ∧ some k_ ≠ (.slice Ao25 t517.length co25 : Value).ownBlock ∧ some k_ ≠ (.slice Ao33 t521.length co33 : Value).ownBlock ∧ some k_ ≠ (.slice Ao28 t525.length co28 : Value).ownBlock ∧ some k_ ≠ (.slice Ao29 t530.length co29 : Value).ownBlock ∧ some k_ ≠ (.slice Ao31 t536.length co31 : Value).ownBlock ∧ some k_ ≠ (.slice Ao34 t540.length co34 : Value).ownBlock) (.slice Ao30 t533.length co30) t533) := ⟨by rw [← hq_]; exact (by (with_reducible repeat (first | apply tA_ | apply tN_ | apply tD_)); exact Kd.S_mono HO535.out (fun _ hk => ⟨hk.1.1.1.1.1.2, ⟨hk.1.1.1.1.2, ⟨hk.1.1.1.2, ⟨hk.1.1.2, ⟨hk.1.2, ⟨hk.1.1.1.1.1.1.1, ⟨hk.1.1.1.1.1.1.2.1, ⟨hk.1.1.1.1.1.1.2.2, hk.2⟩⟩⟩⟩⟩⟩⟩⟩))⟩; have n8_ : Aside0 (Kd.R Kd.string 9 w32 w.heap.size (fun k_ => some k_ ≠ (.slice Ao22 t506.length co22 : Value).ownBlock ∧ some k_ ≠ (.slice Ao23 t511.length co23 : Value).ownBlock ∧ some k_ ≠ (.slice Ao25 t517.length co25 : Value).ownBlock ∧ some k_ ≠ (.slice Ao33 t521.length co33 : Value).ownBlock ∧ some k_ ≠ (.slice Ao28 t525.length co28 : Value).ownBlock ∧ some k_ ≠ (.slice Ao29 t530.length co29 : Value).ownBlock ∧ some k_ ≠ (.slice Ao34 t540.length co34 : Value).ownBlock) (.slice Ao31 t536.length co31) t536) := ⟨by rw [← hq_]; exact (by (with_reducible repeat (first | apply rA_ | apply rN_ | apply rD_)); exact rM_ HO538.out (fun _ hk => ⟨hk.1.1.1.1.2, ⟨hk.1.1.1.2, ⟨hk.1.1.2, ⟨hk.1.2, ⟨hk.1.1.1.1.1.1, ⟨hk.1.1.1.1.1.2, hk.2⟩⟩⟩⟩⟩⟩))⟩; have n9_ : Aside0 (Kd.R Kd.string 9 w32 w.heap.size (fun k_ => some k_ ≠ (.slice Ao22 t506.length co22 : Value).ownBlock ∧ some k_ ≠ (.slice Ao23 t511.length co23 : Value).ownBlock ∧ some k_ ≠ (.slice Ao25 t517.length co25 : Value).ownBlock ∧ some k_ ≠ (.slice Ao33 t521.length co33 : Value).ownBlock ∧ some k_ ≠ (.slice Ao28 t525.length co28 : Value).ownBlock ∧ some k_ ≠ (.slice Ao29 t530.length co29 : Value).ownBlock ∧ some k_ ≠ (.slice Ao31 t536.length co31 : Value).ownBlock) (.slice Ao34 t540.length co34) t540) := ⟨by rw [← hq_]; exact (by (with_reducible repeat (first | apply rA_ | apply rN_ | apply rD_)); exact rM_ HO542.out (fun _ hk => ⟨hk.1.1.1.1.1.1.2, ⟨hk.1.1.1.1.1.2, ⟨hk.1.1.1.1.2, ⟨hk.1.1.1.2, ⟨hk.1.1.2, ⟨hk.1.2, hk.2⟩⟩⟩⟩⟩⟩))⟩; have n10_ : Aside0 (w32.heap[gb502]? = some (.cells #[.string a0_0, .slice A0_1 l0_1.length c0_1, .string a0_2, .string a0_3, .slice A0_4 l0_4.length c0_4, .slice A0_5 l0_5.length c0_5, .slice A0_6 l0_6.length c0_6, .string a0_7] 28 (0, 0))) := ⟨by rw [← hq_]; exact (by (with_reducible repeat (first | refine bN_ ?_ _ | refine bD_ ?_ | refine bA_ ?_ _)); exact BK502.out)⟩; have n11_ : Aside0 (w32.heap[gb503]? = some (.cells #[.int .i64 a1_0, .int .i64 a1_1, .int .i64 a1_2, .int .i64 a1_3, .slice A1_4 l1_4.length c1_4, .slice A1_5 l1_5.length c1_5, .slice A1_6 l1_6.length c1_6, .int .i64 a1_7] 24 (0, 0))) := ⟨by rw [← hq_]; exact (by (with_reducible repeat (first | refine bN_ ?_ _ | refine bD_ ?_ | refine bA_ ?_ _)); exact BK503.out)⟩; have n12_ : Aside0 (Below w.heap.size w w32) := ⟨by rw [← hq_]; exact (by repeat (first | (with_reducible first | exact HB.out | apply wA_ | apply wN_ | apply wD_ | refine wS_ ?_ GE502.out | refine wS_ ?_ GE503.out) | exact HB.out))⟩; clear HO508 HO513 HO516 HO519 HO523 HO527 HO532 HO535 HO538 HO542 BK502 BK503 HB hq_; have HO508 := n0_; have HO513 := n1_; have HO516 := n2_; have HO519 := n3_; have HO523 := n4_; have HO527 := n5_; have HO532 := n6_; have HO535 := n7_; have HO538 := n8_; have HO542 := n9_; have BK502 := n10_; have BK503 := n11_; have HB := n12_; clear n0_ n1_ n2_ n3_ n4_ n5_ n6_ n7_ n8_ n9_ n10_ n11_ n12_))
    have n0_ := Aside0.mk (rD_ HO508.out)
    have n1_ := Aside0.mk (rD_ HO513.out)
    have n2_ := Aside0.mk (tD_ HO516.out)
    have n3_ := Aside0.mk (rD_ HO519.out)
    have n4_ := Aside0.mk (rD_ HO523.out)
    have n5_ := Aside0.mk (rD_ HO527.out)
    have n6_ := Aside0.mk (rD_ HO532.out)
    have n7_ := Aside0.mk (tD_ HO535.out)
    have n8_ := Aside0.mk (rD_ HO538.out)
    have n9_ := Aside0.mk (rD_ HO542.out)
    have n10_ := Aside0.mk (bD_ BK502.out)
    have n11_ := Aside0.mk (bD_ BK503.out)
    have n12_ := Aside0.mk (wD_ HB.out)
    clear HO508 HO513 HO516 HO519 HO523 HO527 HO532 HO535 HO538 HO542 BK502 BK503 HB
    have HO508 := n0_; have HO513 := n1_; have HO516 := n2_; have HO519 := n3_; have HO523 := n4_; have HO527 := n5_; have HO532 := n6_; have HO535 := n7_; have HO538 := n8_; have HO542 := n9_; have BK502 := n10_; have BK503 := n11_; have HB := n12_
    clear n0_ n1_ n2_ n3_ n4_ n5_ n6_ n7_ n8_ n9_ n10_ n11_ n12_
    refine start_ (n := 8) (S := fun w' => w'.cell? ⟨gb503, 0, none⟩ = some (.int .i64 a1_0) ∧ w'.cell? ⟨gb503, 1, none⟩ = some (.int .i64 a1_1) ∧ w'.cell? ⟨gb503, 2, none⟩ = some (.int .i64 a1_2) ∧ w'.cell? ⟨gb503, 3, none⟩ = some (.int .i64 a1_3) ∧ w'.cell? ⟨gb503, 4, none⟩ = some (.slice A1_4 l1_4.length c1_4) ∧ w'.cell? ⟨gb503, 5, none⟩ = some (.slice A1_5 l1_5.length c1_5) ∧ w'.cell? ⟨gb503, 6, none⟩ = some (.slice A1_6 l1_6.length c1_6) ∧ w'.cell? ⟨gb503, 7, none⟩ = some (.int .i64 a1_7)) (ds := []) #[false, false, false, false, false, false, false, false] (by kernel_rfl) rfl rfl ⟨(bC_ BK503.out 0).trans rfl, (bC_ BK503.out 1).trans rfl, (bC_ BK503.out 2).trans rfl, (bC_ BK503.out 3).trans rfl, (bC_ BK503.out 4).trans rfl, (bC_ BK503.out 5).trans rfl, (bC_ BK503.out 6).trans rfl, (bC_ BK503.out 7).trans rfl⟩ (fun hHeld => ?_); refine with_tabW isoglosslaw06_TagSubtags.tab3 isoglosslaw06_TagSubtags.bits3 (fun HT_ HW_ => ?_)
    generalize w32.drew = w35 at HO508 HO513 HO516 HO519 HO523 HO527 HO532 HO535 HO538 HO542 BK502 BK503 HB hHeld ⊢
    refine take_ (i := 0) (N := some 16) (v := ?_) (a' := ?_) #[true, false, false, false, false, false, false, false] rfl rfl (take_ofW HT_.out HW_.out (by kernel_rfl)) (fun _ _ _ h => h) (Or.inl ⟨by rfl, ?_⟩) hHeld ?_ ?_
    rotate_left
    ·rintro w' ⟨s0, s1, s2, s3, s4, s5, s6, s7⟩
     go_simp
     with_reducible rfl
    rotate_left
    ·simp only [Act.put, sA_, sB_, sC_, i64_w, i32_w]
     rfl
    refine take_ (i := 3) (N := some 19) (v := ?_) (a' := ?_) #[true, false, false, true, false, false, false, false] rfl rfl (take_ofW HT_.out HW_.out (by kernel_rfl)) (fun _ _ _ h => h) (Or.inl ⟨by rfl, ?_⟩) hHeld ?_ ?_
    rotate_left
    ·rintro w' ⟨s0, s1, s2, s3, s4, s5, s6, s7⟩
     go_simp
     with_reducible rfl
    rotate_left
    ·simp only [Act.put, sA_, sB_, sC_, i64_w, i32_w]
     rfl
    refine one_ (i := 1) (N := some 17) #[true, true, false, true, false, false, false, false] rfl rfl (one_of HT_.out (by kernel_rfl)) (by decide) (fun K hK => ?_)
    refine goes_ Try.func10 (by kernel_rfl) rfl #[.agg #[.int .i64 a1_0, .int .i64 a1_1, .int .i64 a1_2, .int .i64 a1_3, .slice A1_4 l1_4.length c1_4, .slice A1_5 l1_5.length c1_5, .slice A1_6 l1_6.length c1_6, .int .i64 a1_7]] (by rfl) rfl rfl (by (try simp only [List.map_toArray, List.map_cons, List.map_nil]); first | done | rfl | (simp only [List.length_drop, List.length_take]; rfl)) ?_
    with_reducible refine (isoglossref06_Made.calls k a1_0 a1_1 a1_2 a1_3 _ _ l1_4 _ _ l1_5 _ _ l1_6 a1_7 t544 t545 t548 t549 t550 t553 t556 t559 _ ?side1 ?side2 ?side3 ?side4 ?side5 ?side6 A9.out).mono ?_
    (case side1 => repeat (first | exact (cB_ HR1_4.out HB.out) | (with_reducible refine cA_ ?_ _) | (with_reducible refine cN_ ?_ _) | (with_reducible refine cD_ ?_)))
    (case side2 => exact HC1_4.out)
    (case side3 => repeat (first | exact (cB_ HR1_5.out HB.out) | (with_reducible refine cA_ ?_ _) | (with_reducible refine cN_ ?_ _) | (with_reducible refine cD_ ?_)))
    (case side4 => exact HC1_5.out)
    (case side5 => repeat (first | exact (cB_ HR1_6.out HB.out) | (with_reducible refine cA_ ?_ _) | (with_reducible refine cN_ ?_ _) | (with_reducible refine cD_ ?_)))
    (case side6 => exact HC1_6.out)
    rintro e w36 ⟨v546, v551, v554, v557, rfl, ho0, ho1, ho2, ho3, hb⟩
    refine ⟨_, rfl, ?_⟩
    have n0_ := Aside0.mk (rM_ (Kd.R_told (Kd.R_told (Kd.R_told (Kd.R_old (by (with_reducible repeat (first | apply rA_ | apply rN_ | apply rD_)); exact HO508.out) hb) (Kd.R_base ho0)) (Kd.R_base ho1)) (Kd.R_base ho3)) (fun _ h_ => (by first | exact h_.1 | exact ⟨trivial, h_.1⟩)))
    have n1_ := Aside0.mk (rM_ (Kd.R_told (Kd.R_told (Kd.R_told (Kd.R_old (by (with_reducible repeat (first | apply rA_ | apply rN_ | apply rD_)); exact HO513.out) hb) (Kd.R_base ho0)) (Kd.R_base ho1)) (Kd.R_base ho3)) (fun _ h_ => (by first | exact h_.1 | exact ⟨trivial, h_.1⟩)))
    have n2_ := Aside0.mk (Kd.S_mono (Kd.S_told (Kd.S_told (Kd.S_told (Kd.S_told (Kd.S_old (by (with_reducible repeat (first | apply tA_ | apply tN_ | apply tD_)); exact HO516.out) hb) (Kd.R_base ho0)) (Kd.R_base ho1)) (Kd.S_base ho2)) (Kd.R_base ho3)) (fun _ h_ => (by first | exact h_.1 | exact ⟨trivial, h_.1⟩)))
    have n3_ := Aside0.mk (rM_ (Kd.R_told (Kd.R_told (Kd.R_told (Kd.R_old (by (with_reducible repeat (first | apply rA_ | apply rN_ | apply rD_)); exact HO519.out) hb) (Kd.R_base ho0)) (Kd.R_base ho1)) (Kd.R_base ho3)) (fun _ h_ => (by first | exact h_.1 | exact ⟨trivial, h_.1⟩)))
    have n4_ := Aside0.mk (rM_ (Kd.R_told (Kd.R_told (Kd.R_told (Kd.R_old (by (with_reducible repeat (first | apply rA_ | apply rN_ | apply rD_)); exact HO523.out) hb) (Kd.R_base ho0)) (Kd.R_base ho1)) (Kd.R_base ho3)) (fun _ h_ => (by first | exact h_.1 | exact ⟨trivial, h_.1⟩)))
    have n5_ := Aside0.mk (rM_ (Kd.R_told (Kd.R_told (Kd.R_told (Kd.R_old (by (with_reducible repeat (first | apply rA_ | apply rN_ | apply rD_)); exact HO527.out) hb) (Kd.R_base ho0)) (Kd.R_base ho1)) (Kd.R_base ho3)) (fun _ h_ => (by first | exact h_.1 | exact ⟨trivial, h_.1⟩)))
    have n6_ := Aside0.mk (rM_ (Kd.R_told (Kd.R_told (Kd.R_told (Kd.R_old (by (with_reducible repeat (first | apply rA_ | apply rN_ | apply rD_)); exact HO532.out) hb) (Kd.R_base ho0)) (Kd.R_base ho1)) (Kd.R_base ho3)) (fun _ h_ => (by first | exact h_.1 | exact ⟨trivial, h_.1⟩)))
    have n7_ := Aside0.mk (Kd.S_mono (Kd.S_told (Kd.S_told (Kd.S_told (Kd.S_told (Kd.S_old (by (with_reducible repeat (first | apply tA_ | apply tN_ | apply tD_)); exact HO535.out) hb) (Kd.R_base ho0)) (Kd.R_base ho1)) (Kd.S_base ho2)) (Kd.R_base ho3)) (fun _ h_ => (by first | exact h_.1 | exact ⟨trivial, h_.1⟩)))
    have n8_ := Aside0.mk (rM_ (Kd.R_told (Kd.R_told (Kd.R_told (Kd.R_old (by (with_reducible repeat (first | apply rA_ | apply rN_ | apply rD_)); exact HO538.out) hb) (Kd.R_base ho0)) (Kd.R_base ho1)) (Kd.R_base ho3)) (fun _ h_ => (by first | exact h_.1 | exact ⟨trivial, h_.1⟩)))
    have n9_ := Aside0.mk (rM_ (Kd.R_told (Kd.R_told (Kd.R_told (Kd.R_old (by (with_reducible repeat (first | apply rA_ | apply rN_ | apply rD_)); exact HO542.out) hb) (Kd.R_base ho0)) (Kd.R_base ho1)) (Kd.R_base ho3)) (fun _ h_ => (by first | exact h_.1 | exact ⟨trivial, h_.1⟩)))
    have n10_ := Aside0.mk (Kd.R_lower (Kd.R_new' (Kd.R_new' (Kd.R_new' (Kd.R_new' (Kd.R_new' (Kd.R_new' (Kd.R_new' (Kd.R_new' ho0 (rT_ (by (with_reducible repeat (first | apply rA_ | apply rN_ | apply rD_)); exact HO508.out))) (rT_ (by (with_reducible repeat (first | apply rA_ | apply rN_ | apply rD_)); exact HO513.out))) (rT_ (by (with_reducible repeat (first | apply rA_ | apply rN_ | apply rD_)); exact HO519.out))) (rT_ (by (with_reducible repeat (first | apply rA_ | apply rN_ | apply rD_)); exact HO523.out))) (rT_ (by (with_reducible repeat (first | apply rA_ | apply rN_ | apply rD_)); exact HO527.out))) (rT_ (by (with_reducible repeat (first | apply rA_ | apply rN_ | apply rD_)); exact HO532.out))) (rT_ (by (with_reducible repeat (first | apply rA_ | apply rN_ | apply rD_)); exact HO538.out))) (rT_ (by (with_reducible repeat (first | apply rA_ | apply rN_ | apply rD_)); exact HO542.out))) (wZ_ (by repeat (first | (with_reducible first | exact HB.out | apply wA_ | apply wN_ | apply wD_ | refine wS_ ?_ GE502.out | refine wS_ ?_ GE503.out) | exact HB.out))))
    have n11_ := Aside0.mk (Kd.R_lower (Kd.R_new' (Kd.R_new' (Kd.R_new' (Kd.R_new' (Kd.R_new' (Kd.R_new' (Kd.R_new' (Kd.R_new' ho1 (rT_ (by (with_reducible repeat (first | apply rA_ | apply rN_ | apply rD_)); exact HO508.out))) (rT_ (by (with_reducible repeat (first | apply rA_ | apply rN_ | apply rD_)); exact HO513.out))) (rT_ (by (with_reducible repeat (first | apply rA_ | apply rN_ | apply rD_)); exact HO519.out))) (rT_ (by (with_reducible repeat (first | apply rA_ | apply rN_ | apply rD_)); exact HO523.out))) (rT_ (by (with_reducible repeat (first | apply rA_ | apply rN_ | apply rD_)); exact HO527.out))) (rT_ (by (with_reducible repeat (first | apply rA_ | apply rN_ | apply rD_)); exact HO532.out))) (rT_ (by (with_reducible repeat (first | apply rA_ | apply rN_ | apply rD_)); exact HO538.out))) (rT_ (by (with_reducible repeat (first | apply rA_ | apply rN_ | apply rD_)); exact HO542.out))) (wZ_ (by repeat (first | (with_reducible first | exact HB.out | apply wA_ | apply wN_ | apply wD_ | refine wS_ ?_ GE502.out | refine wS_ ?_ GE503.out) | exact HB.out))))
    have n12_ := Aside0.mk (Kd.S_lower (Kd.S_new' (Kd.S_new' (Kd.S_new' (Kd.S_new' (Kd.S_new' (Kd.S_new' (Kd.S_new' (Kd.S_new' (Kd.S_new' (Kd.S_new' ho2 (rT_ (by (with_reducible repeat (first | apply rA_ | apply rN_ | apply rD_)); exact HO508.out))) (rT_ (by (with_reducible repeat (first | apply rA_ | apply rN_ | apply rD_)); exact HO513.out))) (Kd.S_lt (by (with_reducible repeat (first | apply tA_ | apply tN_ | apply tD_)); exact HO516.out))) (rT_ (by (with_reducible repeat (first | apply rA_ | apply rN_ | apply rD_)); exact HO519.out))) (rT_ (by (with_reducible repeat (first | apply rA_ | apply rN_ | apply rD_)); exact HO523.out))) (rT_ (by (with_reducible repeat (first | apply rA_ | apply rN_ | apply rD_)); exact HO527.out))) (rT_ (by (with_reducible repeat (first | apply rA_ | apply rN_ | apply rD_)); exact HO532.out))) (Kd.S_lt (by (with_reducible repeat (first | apply tA_ | apply tN_ | apply tD_)); exact HO535.out))) (rT_ (by (with_reducible repeat (first | apply rA_ | apply rN_ | apply rD_)); exact HO538.out))) (rT_ (by (with_reducible repeat (first | apply rA_ | apply rN_ | apply rD_)); exact HO542.out))) (wZ_ (by repeat (first | (with_reducible first | exact HB.out | apply wA_ | apply wN_ | apply wD_ | refine wS_ ?_ GE502.out | refine wS_ ?_ GE503.out) | exact HB.out))))
    have n13_ := Aside0.mk (Kd.R_lower (Kd.R_new' (Kd.R_new' (Kd.R_new' (Kd.R_new' (Kd.R_new' (Kd.R_new' (Kd.R_new' (Kd.R_new' ho3 (rT_ (by (with_reducible repeat (first | apply rA_ | apply rN_ | apply rD_)); exact HO508.out))) (rT_ (by (with_reducible repeat (first | apply rA_ | apply rN_ | apply rD_)); exact HO513.out))) (rT_ (by (with_reducible repeat (first | apply rA_ | apply rN_ | apply rD_)); exact HO519.out))) (rT_ (by (with_reducible repeat (first | apply rA_ | apply rN_ | apply rD_)); exact HO523.out))) (rT_ (by (with_reducible repeat (first | apply rA_ | apply rN_ | apply rD_)); exact HO527.out))) (rT_ (by (with_reducible repeat (first | apply rA_ | apply rN_ | apply rD_)); exact HO532.out))) (rT_ (by (with_reducible repeat (first | apply rA_ | apply rN_ | apply rD_)); exact HO538.out))) (rT_ (by (with_reducible repeat (first | apply rA_ | apply rN_ | apply rD_)); exact HO542.out))) (wZ_ (by repeat (first | (with_reducible first | exact HB.out | apply wA_ | apply wN_ | apply wD_ | refine wS_ ?_ GE502.out | refine wS_ ?_ GE503.out) | exact HB.out))))
    have n14_ := Aside0.mk (blk_below (g := gb502) (o := .cells #[.string a0_0, .slice A0_1 l0_1.length c0_1, .string a0_2, .string a0_3, .slice A0_4 l0_4.length c0_4, .slice A0_5 l0_5.length c0_5, .slice A0_6 l0_6.length c0_6, .string a0_7] 28 (0, 0)) (by (with_reducible repeat (first | refine bN_ ?_ _ | refine bD_ ?_ | refine bA_ ?_ _)); exact BK502.out) hb)
    have n15_ := Aside0.mk (blk_below (g := gb503) (o := .cells #[.int .i64 a1_0, .int .i64 a1_1, .int .i64 a1_2, .int .i64 a1_3, .slice A1_4 l1_4.length c1_4, .slice A1_5 l1_5.length c1_5, .slice A1_6 l1_6.length c1_6, .int .i64 a1_7] 24 (0, 0)) (by (with_reducible repeat (first | refine bN_ ?_ _ | refine bD_ ?_ | refine bA_ ?_ _)); exact BK503.out) hb)
    have n16_ := Aside0.mk (wT_ (by repeat (first | (with_reducible first | exact HB.out | apply wA_ | apply wN_ | apply wD_ | refine wS_ ?_ GE502.out | refine wS_ ?_ GE503.out) | exact HB.out)) hb)
    clear HO508 HO513 HO516 HO519 HO523 HO527 HO532 HO535 HO538 HO542 BK502 BK503 HB
    have HO508 := n0_; have HO513 := n1_; have HO516 := n2_; have HO519 := n3_; have HO523 := n4_; have HO527 := n5_; have HO532 := n6_; have HO535 := n7_; have HO538 := n8_; have HO542 := n9_; have HO547 := n10_; have HO552 := n11_; have HO555 := n12_; have HO558 := n13_; have BK502 := n14_; have BK503 := n15_; have HB := n16_
    clear n0_ n1_ n2_ n3_ n4_ n5_ n6_ n7_ n8_ n9_ n10_ n11_ n12_ n13_ n14_ n15_ n16_
    (try clear hb); (try clear hb2); (try clear hk); (try clear hi); (try clear ho0); (try clear ho1); (try clear ho2); (try clear ho3)
    obtain ⟨Ao37, co37, eo37⟩ := Kd.R_slice HO547.out
    (first | subst eo37 | (injection eo37 with f1_ f2_ f3_; have f4_ := f1_.symm; have f5_ := f3_.symm; clear f1_ f2_ f3_; subst f4_; subst f5_))
    obtain ⟨Ao38, co38, eo38⟩ := Kd.R_slice HO552.out
    (first | subst eo38 | (injection eo38 with f1_ f2_ f3_; have f4_ := f1_.symm; have f5_ := f3_.symm; clear f1_ f2_ f3_; subst f4_; subst f5_))
    obtain ⟨Ao39, co39, eo39⟩ := Kd.S_slice HO555.out
    (first | subst eo39 | (injection eo39 with f1_ f2_ f3_; have f4_ := f1_.symm; have f5_ := f3_.symm; clear f1_ f2_ f3_; subst f4_; subst f5_))
    obtain ⟨Ao40, co40, eo40⟩ := Kd.R_slice HO558.out
    (first | subst eo40 | (injection eo40 with f1_ f2_ f3_; have f4_ := f1_.symm; have f5_ := f3_.symm; clear f1_ f2_ f3_; subst f4_; subst f5_))
    refine hK.out _ _ ⟨(bC_ BK503.out 0).trans rfl, (bC_ BK503.out 1).trans rfl, (bC_ BK503.out 2).trans rfl, (bC_ BK503.out 3).trans rfl, (bC_ BK503.out 4).trans rfl, (bC_ BK503.out 5).trans rfl, (bC_ BK503.out 6).trans rfl, (bC_ BK503.out 7).trans rfl⟩ (fun hHeld => ?_)
    clear hK K
    refine norm_ (a' := ?_) ?_ ?_
    rotate_left
    ·show Act.put _ (some 17) _ = _
     simp only [Act.put, sA_, sB_, sC_, i64_w, i32_w]
     rfl
    refine one_ (i := 2) (N := some 18) #[true, true, true, true, false, false, false, false] rfl rfl (one_of HT_.out (by kernel_rfl)) (by decide) (fun K hK => ?_)
    refine goes_ Try.func27 (by kernel_rfl) rfl #[.agg #[.string t544, .slice Ao37 t545.length co37, .string t548, .string t549, .slice Ao38 t550.length co38, .slice Ao39 t553.length co39, .slice Ao40 t556.length co40, .string t559]] (by rfl) rfl rfl (by (try simp only [List.map_toArray, List.map_cons, List.map_nil]); first | done | rfl | (simp only [List.length_drop, List.length_take]; rfl)) ?_
    with_reducible refine (tag_Subtags.calls t544 _ _ t545 t548 t549 _ _ t550 _ _ t553 _ _ t556 t559 t560 _ ?side1 ?side2 ?side3 ?side4 ?side5 ?side6 ?side7 ?side8 A10.out).mono ?_
    (case side1 => repeat (first | exact (rR_ HO547.out).2.2 | (with_reducible refine cA_ ?_ _) | (with_reducible refine cN_ ?_ _) | (with_reducible refine cD_ ?_)))
    (case side2 => exact (rR_ HO547.out).2.1)
    (case side3 => repeat (first | exact (rR_ HO552.out).2.2 | (with_reducible refine cA_ ?_ _) | (with_reducible refine cN_ ?_ _) | (with_reducible refine cD_ ?_)))
    (case side4 => exact (rR_ HO552.out).2.1)
    (case side5 => repeat (first | exact (Kd.S_reads' HO555.out).2.2 | (with_reducible refine cA_ ?_ _) | (with_reducible refine cN_ ?_ _) | (with_reducible refine cD_ ?_)))
    (case side6 => exact (Kd.S_reads' HO555.out).2.1)
    (case side7 => repeat (first | exact (rR_ HO558.out).2.2 | (with_reducible refine cA_ ?_ _) | (with_reducible refine cN_ ?_ _) | (with_reducible refine cD_ ?_)))
    (case side8 => exact (rR_ HO558.out).2.1)
    rintro e w41 ⟨v561, rfl, ho0, hb⟩
    refine ⟨_, rfl, ?_⟩
    have n0_ := Aside0.mk (rL_ (by (with_reducible repeat (first | apply rA_ | apply rN_ | apply rD_)); exact HO508.out) (Kd.R_base ho0) hb)
    have n1_ := Aside0.mk (rL_ (by (with_reducible repeat (first | apply rA_ | apply rN_ | apply rD_)); exact HO513.out) (Kd.R_base ho0) hb)
    have n2_ := Aside0.mk (Kd.S_elder' (by (with_reducible repeat (first | apply tA_ | apply tN_ | apply tD_)); exact HO516.out) (Kd.R_base ho0) hb)
    have n3_ := Aside0.mk (rL_ (by (with_reducible repeat (first | apply rA_ | apply rN_ | apply rD_)); exact HO519.out) (Kd.R_base ho0) hb)
    have n4_ := Aside0.mk (rL_ (by (with_reducible repeat (first | apply rA_ | apply rN_ | apply rD_)); exact HO523.out) (Kd.R_base ho0) hb)
    have n5_ := Aside0.mk (rL_ (by (with_reducible repeat (first | apply rA_ | apply rN_ | apply rD_)); exact HO527.out) (Kd.R_base ho0) hb)
    have n6_ := Aside0.mk (rL_ (by (with_reducible repeat (first | apply rA_ | apply rN_ | apply rD_)); exact HO532.out) (Kd.R_base ho0) hb)
    have n7_ := Aside0.mk (Kd.S_elder' (by (with_reducible repeat (first | apply tA_ | apply tN_ | apply tD_)); exact HO535.out) (Kd.R_base ho0) hb)
    have n8_ := Aside0.mk (rL_ (by (with_reducible repeat (first | apply rA_ | apply rN_ | apply rD_)); exact HO538.out) (Kd.R_base ho0) hb)
    have n9_ := Aside0.mk (rL_ (by (with_reducible repeat (first | apply rA_ | apply rN_ | apply rD_)); exact HO542.out) (Kd.R_base ho0) hb)
    have n10_ := Aside0.mk (rL_ (by (with_reducible repeat (first | apply rA_ | apply rN_ | apply rD_)); exact HO547.out) (Kd.R_base ho0) hb)
    have n11_ := Aside0.mk (rL_ (by (with_reducible repeat (first | apply rA_ | apply rN_ | apply rD_)); exact HO552.out) (Kd.R_base ho0) hb)
    have n12_ := Aside0.mk (Kd.S_elder' (by (with_reducible repeat (first | apply tA_ | apply tN_ | apply tD_)); exact HO555.out) (Kd.R_base ho0) hb)
    have n13_ := Aside0.mk (rL_ (by (with_reducible repeat (first | apply rA_ | apply rN_ | apply rD_)); exact HO558.out) (Kd.R_base ho0) hb)
    have n14_ := Aside0.mk (Kd.R_lower (Kd.R_new' (Kd.R_new' (Kd.R_new' (Kd.R_new' (Kd.R_new' (Kd.R_new' (Kd.R_new' (Kd.R_new' (Kd.R_new' (Kd.R_new' (Kd.R_new' ho0 (rT_ (by (with_reducible repeat (first | apply rA_ | apply rN_ | apply rD_)); exact HO508.out))) (rT_ (by (with_reducible repeat (first | apply rA_ | apply rN_ | apply rD_)); exact HO513.out))) (rT_ (by (with_reducible repeat (first | apply rA_ | apply rN_ | apply rD_)); exact HO519.out))) (rT_ (by (with_reducible repeat (first | apply rA_ | apply rN_ | apply rD_)); exact HO523.out))) (rT_ (by (with_reducible repeat (first | apply rA_ | apply rN_ | apply rD_)); exact HO527.out))) (rT_ (by (with_reducible repeat (first | apply rA_ | apply rN_ | apply rD_)); exact HO532.out))) (rT_ (by (with_reducible repeat (first | apply rA_ | apply rN_ | apply rD_)); exact HO538.out))) (rT_ (by (with_reducible repeat (first | apply rA_ | apply rN_ | apply rD_)); exact HO542.out))) (rT_ (by (with_reducible repeat (first | apply rA_ | apply rN_ | apply rD_)); exact HO547.out))) (rT_ (by (with_reducible repeat (first | apply rA_ | apply rN_ | apply rD_)); exact HO552.out))) (rT_ (by (with_reducible repeat (first | apply rA_ | apply rN_ | apply rD_)); exact HO558.out))) (wZ_ (by repeat (first | (with_reducible first | exact HB.out | apply wA_ | apply wN_ | apply wD_ | refine wS_ ?_ GE502.out | refine wS_ ?_ GE503.out) | exact HB.out))))
    have n15_ := Aside0.mk (blk_below (g := gb502) (o := .cells #[.string a0_0, .slice A0_1 l0_1.length c0_1, .string a0_2, .string a0_3, .slice A0_4 l0_4.length c0_4, .slice A0_5 l0_5.length c0_5, .slice A0_6 l0_6.length c0_6, .string a0_7] 28 (0, 0)) (by (with_reducible repeat (first | refine bN_ ?_ _ | refine bD_ ?_ | refine bA_ ?_ _)); exact BK502.out) hb)
    have n16_ := Aside0.mk (blk_below (g := gb503) (o := .cells #[.int .i64 a1_0, .int .i64 a1_1, .int .i64 a1_2, .int .i64 a1_3, .slice A1_4 l1_4.length c1_4, .slice A1_5 l1_5.length c1_5, .slice A1_6 l1_6.length c1_6, .int .i64 a1_7] 24 (0, 0)) (by (with_reducible repeat (first | refine bN_ ?_ _ | refine bD_ ?_ | refine bA_ ?_ _)); exact BK503.out) hb)
    have n17_ := Aside0.mk (wT_ (by repeat (first | (with_reducible first | exact HB.out | apply wA_ | apply wN_ | apply wD_ | refine wS_ ?_ GE502.out | refine wS_ ?_ GE503.out) | exact HB.out)) hb)
    clear HO508 HO513 HO516 HO519 HO523 HO527 HO532 HO535 HO538 HO542 HO547 HO552 HO555 HO558 BK502 BK503 HB
    have HO508 := n0_; have HO513 := n1_; have HO516 := n2_; have HO519 := n3_; have HO523 := n4_; have HO527 := n5_; have HO532 := n6_; have HO535 := n7_; have HO538 := n8_; have HO542 := n9_; have HO547 := n10_; have HO552 := n11_; have HO555 := n12_; have HO558 := n13_; have HO562 := n14_; have BK502 := n15_; have BK503 := n16_; have HB := n17_
    clear n0_ n1_ n2_ n3_ n4_ n5_ n6_ n7_ n8_ n9_ n10_ n11_ n12_ n13_ n14_ n15_ n16_ n17_
    (try clear hb); (try clear hb2); (try clear hk); (try clear hi); (try clear ho0)
    refine hK.out _ _ ⟨(bC_ BK503.out 0).trans rfl, (bC_ BK503.out 1).trans rfl, (bC_ BK503.out 2).trans rfl, (bC_ BK503.out 3).trans rfl, (bC_ BK503.out 4).trans rfl, (bC_ BK503.out 5).trans rfl, (bC_ BK503.out 6).trans rfl, (bC_ BK503.out 7).trans rfl⟩ (fun hHeld => ?_)
    clear hK K
    refine norm_ (a' := ?_) ?_ ?_
    rotate_left
    ·show Act.put _ (some 18) _ = _
     simp only [Act.put, sA_, sB_, sC_, i64_w, i32_w]
     rfl
    refine one_ (i := 4) (N := some 20) #[true, true, true, true, true, false, false, false] rfl rfl (one_of HT_.out (by kernel_rfl)) (by decide) (fun K hK => ?_)
    refine goes_ Try.func10 (by kernel_rfl) rfl #[.agg #[.int .i64 a1_0, .int .i64 a1_1, .int .i64 a1_2, .int .i64 a1_3, .slice A1_4 l1_4.length c1_4, .slice A1_5 l1_5.length c1_5, .slice A1_6 l1_6.length c1_6, .int .i64 a1_7]] (by rfl) rfl rfl (by (try simp only [List.map_toArray, List.map_cons, List.map_nil]); first | done | rfl | (simp only [List.length_drop, List.length_take]; rfl)) ?_
    with_reducible refine (isoglossref06_Made.calls k a1_0 a1_1 a1_2 a1_3 _ _ l1_4 _ _ l1_5 _ _ l1_6 a1_7 t563 t564 t567 t568 t569 t572 t575 t578 _ ?side1 ?side2 ?side3 ?side4 ?side5 ?side6 A11.out).mono ?_
    (case side1 => repeat (first | exact (cB_ HR1_4.out HB.out) | (with_reducible refine cA_ ?_ _) | (with_reducible refine cN_ ?_ _) | (with_reducible refine cD_ ?_)))
    (case side2 => exact HC1_4.out)
    (case side3 => repeat (first | exact (cB_ HR1_5.out HB.out) | (with_reducible refine cA_ ?_ _) | (with_reducible refine cN_ ?_ _) | (with_reducible refine cD_ ?_)))
    (case side4 => exact HC1_5.out)
    (case side5 => repeat (first | exact (cB_ HR1_6.out HB.out) | (with_reducible refine cA_ ?_ _) | (with_reducible refine cN_ ?_ _) | (with_reducible refine cD_ ?_)))
    (case side6 => exact HC1_6.out)
    rintro e w42 ⟨v565, v570, v573, v576, rfl, ho0, ho1, ho2, ho3, hb⟩
    refine ⟨_, rfl, ?_⟩
    have n0_ := Aside0.mk (rM_ (Kd.R_told (Kd.R_told (Kd.R_told (Kd.R_old (by (with_reducible repeat (first | apply rA_ | apply rN_ | apply rD_)); exact HO508.out) hb) (Kd.R_base ho0)) (Kd.R_base ho1)) (Kd.R_base ho3)) (fun _ h_ => (by first | exact h_.1 | exact ⟨trivial, h_.1⟩)))
    have n1_ := Aside0.mk (rM_ (Kd.R_told (Kd.R_told (Kd.R_told (Kd.R_old (by (with_reducible repeat (first | apply rA_ | apply rN_ | apply rD_)); exact HO513.out) hb) (Kd.R_base ho0)) (Kd.R_base ho1)) (Kd.R_base ho3)) (fun _ h_ => (by first | exact h_.1 | exact ⟨trivial, h_.1⟩)))
    have n2_ := Aside0.mk (Kd.S_mono (Kd.S_told (Kd.S_told (Kd.S_told (Kd.S_told (Kd.S_old (by (with_reducible repeat (first | apply tA_ | apply tN_ | apply tD_)); exact HO516.out) hb) (Kd.R_base ho0)) (Kd.R_base ho1)) (Kd.S_base ho2)) (Kd.R_base ho3)) (fun _ h_ => (by first | exact h_.1 | exact ⟨trivial, h_.1⟩)))
    have n3_ := Aside0.mk (rM_ (Kd.R_told (Kd.R_told (Kd.R_told (Kd.R_old (by (with_reducible repeat (first | apply rA_ | apply rN_ | apply rD_)); exact HO519.out) hb) (Kd.R_base ho0)) (Kd.R_base ho1)) (Kd.R_base ho3)) (fun _ h_ => (by first | exact h_.1 | exact ⟨trivial, h_.1⟩)))
    have n4_ := Aside0.mk (rM_ (Kd.R_told (Kd.R_told (Kd.R_told (Kd.R_old (by (with_reducible repeat (first | apply rA_ | apply rN_ | apply rD_)); exact HO523.out) hb) (Kd.R_base ho0)) (Kd.R_base ho1)) (Kd.R_base ho3)) (fun _ h_ => (by first | exact h_.1 | exact ⟨trivial, h_.1⟩)))
    have n5_ := Aside0.mk (rM_ (Kd.R_told (Kd.R_told (Kd.R_told (Kd.R_old (by (with_reducible repeat (first | apply rA_ | apply rN_ | apply rD_)); exact HO527.out) hb) (Kd.R_base ho0)) (Kd.R_base ho1)) (Kd.R_base ho3)) (fun _ h_ => (by first | exact h_.1 | exact ⟨trivial, h_.1⟩)))
    have n6_ := Aside0.mk (rM_ (Kd.R_told (Kd.R_told (Kd.R_told (Kd.R_old (by (with_reducible repeat (first | apply rA_ | apply rN_ | apply rD_)); exact HO532.out) hb) (Kd.R_base ho0)) (Kd.R_base ho1)) (Kd.R_base ho3)) (fun _ h_ => (by first | exact h_.1 | exact ⟨trivial, h_.1⟩)))
    have n7_ := Aside0.mk (Kd.S_mono (Kd.S_told (Kd.S_told (Kd.S_told (Kd.S_told (Kd.S_old (by (with_reducible repeat (first | apply tA_ | apply tN_ | apply tD_)); exact HO535.out) hb) (Kd.R_base ho0)) (Kd.R_base ho1)) (Kd.S_base ho2)) (Kd.R_base ho3)) (fun _ h_ => (by first | exact h_.1 | exact ⟨trivial, h_.1⟩)))
    have n8_ := Aside0.mk (rM_ (Kd.R_told (Kd.R_told (Kd.R_told (Kd.R_old (by (with_reducible repeat (first | apply rA_ | apply rN_ | apply rD_)); exact HO538.out) hb) (Kd.R_base ho0)) (Kd.R_base ho1)) (Kd.R_base ho3)) (fun _ h_ => (by first | exact h_.1 | exact ⟨trivial, h_.1⟩)))
    have n9_ := Aside0.mk (rM_ (Kd.R_told (Kd.R_told (Kd.R_told (Kd.R_old (by (with_reducible repeat (first | apply rA_ | apply rN_ | apply rD_)); exact HO542.out) hb) (Kd.R_base ho0)) (Kd.R_base ho1)) (Kd.R_base ho3)) (fun _ h_ => (by first | exact h_.1 | exact ⟨trivial, h_.1⟩)))
    have n10_ := Aside0.mk (rM_ (Kd.R_told (Kd.R_told (Kd.R_told (Kd.R_old (by (with_reducible repeat (first | apply rA_ | apply rN_ | apply rD_)); exact HO547.out) hb) (Kd.R_base ho0)) (Kd.R_base ho1)) (Kd.R_base ho3)) (fun _ h_ => (by first | exact h_.1 | exact ⟨trivial, h_.1⟩)))
    have n11_ := Aside0.mk (rM_ (Kd.R_told (Kd.R_told (Kd.R_told (Kd.R_old (by (with_reducible repeat (first | apply rA_ | apply rN_ | apply rD_)); exact HO552.out) hb) (Kd.R_base ho0)) (Kd.R_base ho1)) (Kd.R_base ho3)) (fun _ h_ => (by first | exact h_.1 | exact ⟨trivial, h_.1⟩)))
    have n12_ := Aside0.mk (Kd.S_mono (Kd.S_told (Kd.S_told (Kd.S_told (Kd.S_told (Kd.S_old (by (with_reducible repeat (first | apply tA_ | apply tN_ | apply tD_)); exact HO555.out) hb) (Kd.R_base ho0)) (Kd.R_base ho1)) (Kd.S_base ho2)) (Kd.R_base ho3)) (fun _ h_ => (by first | exact h_.1 | exact ⟨trivial, h_.1⟩)))
    have n13_ := Aside0.mk (rM_ (Kd.R_told (Kd.R_told (Kd.R_told (Kd.R_old (by (with_reducible repeat (first | apply rA_ | apply rN_ | apply rD_)); exact HO558.out) hb) (Kd.R_base ho0)) (Kd.R_base ho1)) (Kd.R_base ho3)) (fun _ h_ => (by first | exact h_.1 | exact ⟨trivial, h_.1⟩)))
    have n14_ := Aside0.mk (rM_ (Kd.R_told (Kd.R_told (Kd.R_told (Kd.R_old (by (with_reducible repeat (first | apply rA_ | apply rN_ | apply rD_)); exact HO562.out) hb) (Kd.R_base ho0)) (Kd.R_base ho1)) (Kd.R_base ho3)) (fun _ h_ => (by first | exact h_.1 | exact ⟨trivial, h_.1⟩)))
    have n15_ := Aside0.mk (Kd.R_lower (Kd.R_new' (Kd.R_new' (Kd.R_new' (Kd.R_new' (Kd.R_new' (Kd.R_new' (Kd.R_new' (Kd.R_new' (Kd.R_new' (Kd.R_new' (Kd.R_new' (Kd.R_new' ho0 (rT_ (by (with_reducible repeat (first | apply rA_ | apply rN_ | apply rD_)); exact HO508.out))) (rT_ (by (with_reducible repeat (first | apply rA_ | apply rN_ | apply rD_)); exact HO513.out))) (rT_ (by (with_reducible repeat (first | apply rA_ | apply rN_ | apply rD_)); exact HO519.out))) (rT_ (by (with_reducible repeat (first | apply rA_ | apply rN_ | apply rD_)); exact HO523.out))) (rT_ (by (with_reducible repeat (first | apply rA_ | apply rN_ | apply rD_)); exact HO527.out))) (rT_ (by (with_reducible repeat (first | apply rA_ | apply rN_ | apply rD_)); exact HO532.out))) (rT_ (by (with_reducible repeat (first | apply rA_ | apply rN_ | apply rD_)); exact HO538.out))) (rT_ (by (with_reducible repeat (first | apply rA_ | apply rN_ | apply rD_)); exact HO542.out))) (rT_ (by (with_reducible repeat (first | apply rA_ | apply rN_ | apply rD_)); exact HO547.out))) (rT_ (by (with_reducible repeat (first | apply rA_ | apply rN_ | apply rD_)); exact HO552.out))) (rT_ (by (with_reducible repeat (first | apply rA_ | apply rN_ | apply rD_)); exact HO558.out))) (rT_ (by (with_reducible repeat (first | apply rA_ | apply rN_ | apply rD_)); exact HO562.out))) (wZ_ (by repeat (first | (with_reducible first | exact HB.out | apply wA_ | apply wN_ | apply wD_ | refine wS_ ?_ GE502.out | refine wS_ ?_ GE503.out) | exact HB.out))))
    have n16_ := Aside0.mk (Kd.R_lower (Kd.R_new' (Kd.R_new' (Kd.R_new' (Kd.R_new' (Kd.R_new' (Kd.R_new' (Kd.R_new' (Kd.R_new' (Kd.R_new' (Kd.R_new' (Kd.R_new' (Kd.R_new' ho1 (rT_ (by (with_reducible repeat (first | apply rA_ | apply rN_ | apply rD_)); exact HO508.out))) (rT_ (by (with_reducible repeat (first | apply rA_ | apply rN_ | apply rD_)); exact HO513.out))) (rT_ (by (with_reducible repeat (first | apply rA_ | apply rN_ | apply rD_)); exact HO519.out))) (rT_ (by (with_reducible repeat (first | apply rA_ | apply rN_ | apply rD_)); exact HO523.out))) (rT_ (by (with_reducible repeat (first | apply rA_ | apply rN_ | apply rD_)); exact HO527.out))) (rT_ (by (with_reducible repeat (first | apply rA_ | apply rN_ | apply rD_)); exact HO532.out))) (rT_ (by (with_reducible repeat (first | apply rA_ | apply rN_ | apply rD_)); exact HO538.out))) (rT_ (by (with_reducible repeat (first | apply rA_ | apply rN_ | apply rD_)); exact HO542.out))) (rT_ (by (with_reducible repeat (first | apply rA_ | apply rN_ | apply rD_)); exact HO547.out))) (rT_ (by (with_reducible repeat (first | apply rA_ | apply rN_ | apply rD_)); exact HO552.out))) (rT_ (by (with_reducible repeat (first | apply rA_ | apply rN_ | apply rD_)); exact HO558.out))) (rT_ (by (with_reducible repeat (first | apply rA_ | apply rN_ | apply rD_)); exact HO562.out))) (wZ_ (by repeat (first | (with_reducible first | exact HB.out | apply wA_ | apply wN_ | apply wD_ | refine wS_ ?_ GE502.out | refine wS_ ?_ GE503.out) | exact HB.out))))
    have n17_ := Aside0.mk (Kd.S_lower (Kd.S_new' (Kd.S_new' (Kd.S_new' (Kd.S_new' (Kd.S_new' (Kd.S_new' (Kd.S_new' (Kd.S_new' (Kd.S_new' (Kd.S_new' (Kd.S_new' (Kd.S_new' (Kd.S_new' (Kd.S_new' (Kd.S_new' ho2 (rT_ (by (with_reducible repeat (first | apply rA_ | apply rN_ | apply rD_)); exact HO508.out))) (rT_ (by (with_reducible repeat (first | apply rA_ | apply rN_ | apply rD_)); exact HO513.out))) (Kd.S_lt (by (with_reducible repeat (first | apply tA_ | apply tN_ | apply tD_)); exact HO516.out))) (rT_ (by (with_reducible repeat (first | apply rA_ | apply rN_ | apply rD_)); exact HO519.out))) (rT_ (by (with_reducible repeat (first | apply rA_ | apply rN_ | apply rD_)); exact HO523.out))) (rT_ (by (with_reducible repeat (first | apply rA_ | apply rN_ | apply rD_)); exact HO527.out))) (rT_ (by (with_reducible repeat (first | apply rA_ | apply rN_ | apply rD_)); exact HO532.out))) (Kd.S_lt (by (with_reducible repeat (first | apply tA_ | apply tN_ | apply tD_)); exact HO535.out))) (rT_ (by (with_reducible repeat (first | apply rA_ | apply rN_ | apply rD_)); exact HO538.out))) (rT_ (by (with_reducible repeat (first | apply rA_ | apply rN_ | apply rD_)); exact HO542.out))) (rT_ (by (with_reducible repeat (first | apply rA_ | apply rN_ | apply rD_)); exact HO547.out))) (rT_ (by (with_reducible repeat (first | apply rA_ | apply rN_ | apply rD_)); exact HO552.out))) (Kd.S_lt (by (with_reducible repeat (first | apply tA_ | apply tN_ | apply tD_)); exact HO555.out))) (rT_ (by (with_reducible repeat (first | apply rA_ | apply rN_ | apply rD_)); exact HO558.out))) (rT_ (by (with_reducible repeat (first | apply rA_ | apply rN_ | apply rD_)); exact HO562.out))) (wZ_ (by repeat (first | (with_reducible first | exact HB.out | apply wA_ | apply wN_ | apply wD_ | refine wS_ ?_ GE502.out | refine wS_ ?_ GE503.out) | exact HB.out))))
    have n18_ := Aside0.mk (Kd.R_lower (Kd.R_new' (Kd.R_new' (Kd.R_new' (Kd.R_new' (Kd.R_new' (Kd.R_new' (Kd.R_new' (Kd.R_new' (Kd.R_new' (Kd.R_new' (Kd.R_new' (Kd.R_new' ho3 (rT_ (by (with_reducible repeat (first | apply rA_ | apply rN_ | apply rD_)); exact HO508.out))) (rT_ (by (with_reducible repeat (first | apply rA_ | apply rN_ | apply rD_)); exact HO513.out))) (rT_ (by (with_reducible repeat (first | apply rA_ | apply rN_ | apply rD_)); exact HO519.out))) (rT_ (by (with_reducible repeat (first | apply rA_ | apply rN_ | apply rD_)); exact HO523.out))) (rT_ (by (with_reducible repeat (first | apply rA_ | apply rN_ | apply rD_)); exact HO527.out))) (rT_ (by (with_reducible repeat (first | apply rA_ | apply rN_ | apply rD_)); exact HO532.out))) (rT_ (by (with_reducible repeat (first | apply rA_ | apply rN_ | apply rD_)); exact HO538.out))) (rT_ (by (with_reducible repeat (first | apply rA_ | apply rN_ | apply rD_)); exact HO542.out))) (rT_ (by (with_reducible repeat (first | apply rA_ | apply rN_ | apply rD_)); exact HO547.out))) (rT_ (by (with_reducible repeat (first | apply rA_ | apply rN_ | apply rD_)); exact HO552.out))) (rT_ (by (with_reducible repeat (first | apply rA_ | apply rN_ | apply rD_)); exact HO558.out))) (rT_ (by (with_reducible repeat (first | apply rA_ | apply rN_ | apply rD_)); exact HO562.out))) (wZ_ (by repeat (first | (with_reducible first | exact HB.out | apply wA_ | apply wN_ | apply wD_ | refine wS_ ?_ GE502.out | refine wS_ ?_ GE503.out) | exact HB.out))))
    have n19_ := Aside0.mk (blk_below (g := gb502) (o := .cells #[.string a0_0, .slice A0_1 l0_1.length c0_1, .string a0_2, .string a0_3, .slice A0_4 l0_4.length c0_4, .slice A0_5 l0_5.length c0_5, .slice A0_6 l0_6.length c0_6, .string a0_7] 28 (0, 0)) (by (with_reducible repeat (first | refine bN_ ?_ _ | refine bD_ ?_ | refine bA_ ?_ _)); exact BK502.out) hb)
    have n20_ := Aside0.mk (blk_below (g := gb503) (o := .cells #[.int .i64 a1_0, .int .i64 a1_1, .int .i64 a1_2, .int .i64 a1_3, .slice A1_4 l1_4.length c1_4, .slice A1_5 l1_5.length c1_5, .slice A1_6 l1_6.length c1_6, .int .i64 a1_7] 24 (0, 0)) (by (with_reducible repeat (first | refine bN_ ?_ _ | refine bD_ ?_ | refine bA_ ?_ _)); exact BK503.out) hb)
    have n21_ := Aside0.mk (wT_ (by repeat (first | (with_reducible first | exact HB.out | apply wA_ | apply wN_ | apply wD_ | refine wS_ ?_ GE502.out | refine wS_ ?_ GE503.out) | exact HB.out)) hb)
    clear HO508 HO513 HO516 HO519 HO523 HO527 HO532 HO535 HO538 HO542 HO547 HO552 HO555 HO558 HO562 BK502 BK503 HB
    have HO508 := n0_; have HO513 := n1_; have HO516 := n2_; have HO519 := n3_; have HO523 := n4_; have HO527 := n5_; have HO532 := n6_; have HO535 := n7_; have HO538 := n8_; have HO542 := n9_; have HO547 := n10_; have HO552 := n11_; have HO555 := n12_; have HO558 := n13_; have HO562 := n14_; have HO566 := n15_; have HO571 := n16_; have HO574 := n17_; have HO577 := n18_; have BK502 := n19_; have BK503 := n20_; have HB := n21_
    clear n0_ n1_ n2_ n3_ n4_ n5_ n6_ n7_ n8_ n9_ n10_ n11_ n12_ n13_ n14_ n15_ n16_ n17_ n18_ n19_ n20_ n21_
    (try clear hb); (try clear hb2); (try clear hk); (try clear hi); (try clear ho0); (try clear ho1); (try clear ho2); (try clear ho3)
    obtain ⟨Ao43, co43, eo43⟩ := Kd.R_slice HO566.out
    (first | subst eo43 | (injection eo43 with f1_ f2_ f3_; have f4_ := f1_.symm; have f5_ := f3_.symm; clear f1_ f2_ f3_; subst f4_; subst f5_))
    obtain ⟨Ao44, co44, eo44⟩ := Kd.R_slice HO571.out
    (first | subst eo44 | (injection eo44 with f1_ f2_ f3_; have f4_ := f1_.symm; have f5_ := f3_.symm; clear f1_ f2_ f3_; subst f4_; subst f5_))
    obtain ⟨Ao45, co45, eo45⟩ := Kd.S_slice HO574.out
    (first | subst eo45 | (injection eo45 with f1_ f2_ f3_; have f4_ := f1_.symm; have f5_ := f3_.symm; clear f1_ f2_ f3_; subst f4_; subst f5_))
    obtain ⟨Ao46, co46, eo46⟩ := Kd.R_slice HO577.out
    (first | subst eo46 | (injection eo46 with f1_ f2_ f3_; have f4_ := f1_.symm; have f5_ := f3_.symm; clear f1_ f2_ f3_; subst f4_; subst f5_))
    refine hK.out _ _ ⟨(bC_ BK503.out 0).trans rfl, (bC_ BK503.out 1).trans rfl, (bC_ BK503.out 2).trans rfl, (bC_ BK503.out 3).trans rfl, (bC_ BK503.out 4).trans rfl, (bC_ BK503.out 5).trans rfl, (bC_ BK503.out 6).trans rfl, (bC_ BK503.out 7).trans rfl⟩ (fun hHeld => ?_)
    clear hK K
    refine norm_ (a' := ?_) ?_ ?_
    rotate_left
    ·show Act.put _ (some 20) _ = _
     simp only [Act.put, sA_, sB_, sC_, i64_w, i32_w]
     rfl
    refine one_ (i := 5) (N := some 21) #[true, true, true, true, true, true, false, false] rfl rfl (one_of HT_.out (by kernel_rfl)) (by decide) (fun K hK => ?_)
    refine goes_ Try.func28 (by kernel_rfl) rfl #[.agg #[.string t563, .slice Ao43 t564.length co43, .string t567, .string t568, .slice Ao44 t569.length co44, .slice Ao45 t572.length co45, .slice Ao46 t575.length co46, .string t578]] (by rfl) rfl rfl (by (try simp only [List.map_toArray, List.map_cons, List.map_nil]); first | done | rfl | (simp only [List.length_drop, List.length_take]; rfl)) ?_
    with_reducible refine (isoglossref06_Subtags.calls k t563 _ _ t564 t567 t568 _ _ t569 _ _ t572 _ _ t575 t578 t579 _ ?side1 ?side2 ?side3 ?side4 ?side5 ?side6 ?side7 ?side8 A12.out).mono ?_
    (case side1 => repeat (first | exact (rR_ HO566.out).2.2 | (with_reducible refine cA_ ?_ _) | (with_reducible refine cN_ ?_ _) | (with_reducible refine cD_ ?_)))
    (case side2 => exact (rR_ HO566.out).2.1)
    (case side3 => repeat (first | exact (rR_ HO571.out).2.2 | (with_reducible refine cA_ ?_ _) | (with_reducible refine cN_ ?_ _) | (with_reducible refine cD_ ?_)))
    (case side4 => exact (rR_ HO571.out).2.1)
    (case side5 => repeat (first | exact (Kd.S_reads' HO574.out).2.2 | (with_reducible refine cA_ ?_ _) | (with_reducible refine cN_ ?_ _) | (with_reducible refine cD_ ?_)))
    (case side6 => exact (Kd.S_reads' HO574.out).2.1)
    (case side7 => repeat (first | exact (rR_ HO577.out).2.2 | (with_reducible refine cA_ ?_ _) | (with_reducible refine cN_ ?_ _) | (with_reducible refine cD_ ?_)))
    (case side8 => exact (rR_ HO577.out).2.1)
    rintro e w47 ⟨v580, rfl, ho0, hb⟩
    refine ⟨_, rfl, ?_⟩
    have n0_ := Aside0.mk (rL_ (by (with_reducible repeat (first | apply rA_ | apply rN_ | apply rD_)); exact HO508.out) (Kd.R_base ho0) hb)
    have n1_ := Aside0.mk (rL_ (by (with_reducible repeat (first | apply rA_ | apply rN_ | apply rD_)); exact HO513.out) (Kd.R_base ho0) hb)
    have n2_ := Aside0.mk (Kd.S_elder' (by (with_reducible repeat (first | apply tA_ | apply tN_ | apply tD_)); exact HO516.out) (Kd.R_base ho0) hb)
    have n3_ := Aside0.mk (rL_ (by (with_reducible repeat (first | apply rA_ | apply rN_ | apply rD_)); exact HO519.out) (Kd.R_base ho0) hb)
    have n4_ := Aside0.mk (rL_ (by (with_reducible repeat (first | apply rA_ | apply rN_ | apply rD_)); exact HO523.out) (Kd.R_base ho0) hb)
    have n5_ := Aside0.mk (rL_ (by (with_reducible repeat (first | apply rA_ | apply rN_ | apply rD_)); exact HO527.out) (Kd.R_base ho0) hb)
    have n6_ := Aside0.mk (rL_ (by (with_reducible repeat (first | apply rA_ | apply rN_ | apply rD_)); exact HO532.out) (Kd.R_base ho0) hb)
    have n7_ := Aside0.mk (Kd.S_elder' (by (with_reducible repeat (first | apply tA_ | apply tN_ | apply tD_)); exact HO535.out) (Kd.R_base ho0) hb)
    have n8_ := Aside0.mk (rL_ (by (with_reducible repeat (first | apply rA_ | apply rN_ | apply rD_)); exact HO538.out) (Kd.R_base ho0) hb)
    have n9_ := Aside0.mk (rL_ (by (with_reducible repeat (first | apply rA_ | apply rN_ | apply rD_)); exact HO542.out) (Kd.R_base ho0) hb)
    have n10_ := Aside0.mk (rL_ (by (with_reducible repeat (first | apply rA_ | apply rN_ | apply rD_)); exact HO547.out) (Kd.R_base ho0) hb)
    have n11_ := Aside0.mk (rL_ (by (with_reducible repeat (first | apply rA_ | apply rN_ | apply rD_)); exact HO552.out) (Kd.R_base ho0) hb)
    have n12_ := Aside0.mk (Kd.S_elder' (by (with_reducible repeat (first | apply tA_ | apply tN_ | apply tD_)); exact HO555.out) (Kd.R_base ho0) hb)
    have n13_ := Aside0.mk (rL_ (by (with_reducible repeat (first | apply rA_ | apply rN_ | apply rD_)); exact HO558.out) (Kd.R_base ho0) hb)
    have n14_ := Aside0.mk (rL_ (by (with_reducible repeat (first | apply rA_ | apply rN_ | apply rD_)); exact HO562.out) (Kd.R_base ho0) hb)
    have n15_ := Aside0.mk (rL_ (by (with_reducible repeat (first | apply rA_ | apply rN_ | apply rD_)); exact HO566.out) (Kd.R_base ho0) hb)
    have n16_ := Aside0.mk (rL_ (by (with_reducible repeat (first | apply rA_ | apply rN_ | apply rD_)); exact HO571.out) (Kd.R_base ho0) hb)
    have n17_ := Aside0.mk (Kd.S_elder' (by (with_reducible repeat (first | apply tA_ | apply tN_ | apply tD_)); exact HO574.out) (Kd.R_base ho0) hb)
    have n18_ := Aside0.mk (rL_ (by (with_reducible repeat (first | apply rA_ | apply rN_ | apply rD_)); exact HO577.out) (Kd.R_base ho0) hb)
    have n19_ := Aside0.mk (Kd.R_lower (Kd.R_new' (Kd.R_new' (Kd.R_new' (Kd.R_new' (Kd.R_new' (Kd.R_new' (Kd.R_new' (Kd.R_new' (Kd.R_new' (Kd.R_new' (Kd.R_new' (Kd.R_new' (Kd.R_new' (Kd.R_new' (Kd.R_new' ho0 (rT_ (by (with_reducible repeat (first | apply rA_ | apply rN_ | apply rD_)); exact HO508.out))) (rT_ (by (with_reducible repeat (first | apply rA_ | apply rN_ | apply rD_)); exact HO513.out))) (rT_ (by (with_reducible repeat (first | apply rA_ | apply rN_ | apply rD_)); exact HO519.out))) (rT_ (by (with_reducible repeat (first | apply rA_ | apply rN_ | apply rD_)); exact HO523.out))) (rT_ (by (with_reducible repeat (first | apply rA_ | apply rN_ | apply rD_)); exact HO527.out))) (rT_ (by (with_reducible repeat (first | apply rA_ | apply rN_ | apply rD_)); exact HO532.out))) (rT_ (by (with_reducible repeat (first | apply rA_ | apply rN_ | apply rD_)); exact HO538.out))) (rT_ (by (with_reducible repeat (first | apply rA_ | apply rN_ | apply rD_)); exact HO542.out))) (rT_ (by (with_reducible repeat (first | apply rA_ | apply rN_ | apply rD_)); exact HO547.out))) (rT_ (by (with_reducible repeat (first | apply rA_ | apply rN_ | apply rD_)); exact HO552.out))) (rT_ (by (with_reducible repeat (first | apply rA_ | apply rN_ | apply rD_)); exact HO558.out))) (rT_ (by (with_reducible repeat (first | apply rA_ | apply rN_ | apply rD_)); exact HO562.out))) (rT_ (by (with_reducible repeat (first | apply rA_ | apply rN_ | apply rD_)); exact HO566.out))) (rT_ (by (with_reducible repeat (first | apply rA_ | apply rN_ | apply rD_)); exact HO571.out))) (rT_ (by (with_reducible repeat (first | apply rA_ | apply rN_ | apply rD_)); exact HO577.out))) (wZ_ (by repeat (first | (with_reducible first | exact HB.out | apply wA_ | apply wN_ | apply wD_ | refine wS_ ?_ GE502.out | refine wS_ ?_ GE503.out) | exact HB.out))))
    have n20_ := Aside0.mk (blk_below (g := gb502) (o := .cells #[.string a0_0, .slice A0_1 l0_1.length c0_1, .string a0_2, .string a0_3, .slice A0_4 l0_4.length c0_4, .slice A0_5 l0_5.length c0_5, .slice A0_6 l0_6.length c0_6, .string a0_7] 28 (0, 0)) (by (with_reducible repeat (first | refine bN_ ?_ _ | refine bD_ ?_ | refine bA_ ?_ _)); exact BK502.out) hb)
    have n21_ := Aside0.mk (blk_below (g := gb503) (o := .cells #[.int .i64 a1_0, .int .i64 a1_1, .int .i64 a1_2, .int .i64 a1_3, .slice A1_4 l1_4.length c1_4, .slice A1_5 l1_5.length c1_5, .slice A1_6 l1_6.length c1_6, .int .i64 a1_7] 24 (0, 0)) (by (with_reducible repeat (first | refine bN_ ?_ _ | refine bD_ ?_ | refine bA_ ?_ _)); exact BK503.out) hb)
    have n22_ := Aside0.mk (wT_ (by repeat (first | (with_reducible first | exact HB.out | apply wA_ | apply wN_ | apply wD_ | refine wS_ ?_ GE502.out | refine wS_ ?_ GE503.out) | exact HB.out)) hb)
    clear HO508 HO513 HO516 HO519 HO523 HO527 HO532 HO535 HO538 HO542 HO547 HO552 HO555 HO558 HO562 HO566 HO571 HO574 HO577 BK502 BK503 HB
    have HO508 := n0_; have HO513 := n1_; have HO516 := n2_; have HO519 := n3_; have HO523 := n4_; have HO527 := n5_; have HO532 := n6_; have HO535 := n7_; have HO538 := n8_; have HO542 := n9_; have HO547 := n10_; have HO552 := n11_; have HO555 := n12_; have HO558 := n13_; have HO562 := n14_; have HO566 := n15_; have HO571 := n16_; have HO574 := n17_; have HO577 := n18_; have HO581 := n19_; have BK502 := n20_; have BK503 := n21_; have HB := n22_
    clear n0_ n1_ n2_ n3_ n4_ n5_ n6_ n7_ n8_ n9_ n10_ n11_ n12_ n13_ n14_ n15_ n16_ n17_ n18_ n19_ n20_ n21_ n22_
    (try clear hb); (try clear hb2); (try clear hk); (try clear hi); (try clear ho0)
    obtain ⟨Ao48, co48, eo48⟩ := Kd.R_slice HO562.out
    (first | subst eo48 | (injection eo48 with f1_ f2_ f3_; have f4_ := f1_.symm; have f5_ := f3_.symm; clear f1_ f2_ f3_; subst f4_; subst f5_))
    obtain ⟨Ao49, co49, eo49⟩ := Kd.R_slice HO581.out
    (first | subst eo49 | (injection eo49 with f1_ f2_ f3_; have f4_ := f1_.symm; have f5_ := f3_.symm; clear f1_ f2_ f3_; subst f4_; subst f5_))
    refine hK.out _ _ ⟨(bC_ BK503.out 0).trans rfl, (bC_ BK503.out 1).trans rfl, (bC_ BK503.out 2).trans rfl, (bC_ BK503.out 3).trans rfl, (bC_ BK503.out 4).trans rfl, (bC_ BK503.out 5).trans rfl, (bC_ BK503.out 6).trans rfl, (bC_ BK503.out 7).trans rfl⟩ (fun hHeld => ?_)
    clear hK K
    refine norm_ (a' := ?_) ?_ ?_
    rotate_left
    ·show Act.put _ (some 21) _ = _
     simp only [Act.put, sA_, sB_, sC_, i64_w, i32_w]
     rfl
    refine one_ (i := 6) (N := some 22) #[true, true, true, true, true, true, true, false] rfl rfl (one_of HT_.out (by kernel_rfl)) (by decide) (fun K hK => ?_)
    refine goes_ Try.func26 (by kernel_rfl) rfl #[.slice Ao48 t560.length co48, .slice Ao49 t579.length co49] (by rfl) rfl rfl (by (try simp only [List.map_toArray, List.map_cons, List.map_nil]); first | done | rfl | (simp only [List.length_drop, List.length_take]; rfl)) ?_
    with_reducible refine (isoglossref04_Same.calls k _ _ t560 _ _ t579 true _ ?side1 ?side2 ?side3 ?side4 A13.out).mono ?_
    (case side1 => repeat (first | exact (rR_ HO562.out).2.2 | (with_reducible refine cA_ ?_ _) | (with_reducible refine cN_ ?_ _) | (with_reducible refine cD_ ?_)))
    (case side2 => exact (rR_ HO562.out).2.1)
    (case side3 => repeat (first | exact (rR_ HO581.out).2.2 | (with_reducible refine cA_ ?_ _) | (with_reducible refine cN_ ?_ _) | (with_reducible refine cD_ ?_)))
    (case side4 => exact (rR_ HO581.out).2.1)
    rintro e w' ⟨rfl, ⟨nd, rfl⟩⟩
    refine ⟨_, rfl, ?_⟩
    refine hK.out _ _ ⟨(bC_ BK503.out 0).trans rfl, (bC_ BK503.out 1).trans rfl, (bC_ BK503.out 2).trans rfl, (bC_ BK503.out 3).trans rfl, (bC_ BK503.out 4).trans rfl, (bC_ BK503.out 5).trans rfl, (bC_ BK503.out 6).trans rfl, (bC_ BK503.out 7).trans rfl⟩ (fun hHeld => ?_)
    clear hK K
    refine norm_ (a' := ?_) ?_ ?_
    rotate_left
    ·show Act.put _ (some 22) _ = _
     simp only [Act.put, sA_, sB_, sC_, i64_w, i32_w]
     rfl
    refine pure_ (i := 7) (N := some 7) (v := ?_) (a' := ?_) #[true, true, true, true, true, true, true, true] rfl rfl (any_of HT_.out (by kernel_rfl)) (fun _ _ _ h => h) (Or.inl ⟨by rfl, ?_⟩) ?_ ?_
    rotate_left
    ·intro w'
     go_simp
     with_reducible rfl
    rotate_left
    ·simp only [Act.put, sA_, sB_, sC_, i64_w, i32_w]
     rfl
    refine done_ (done_of HT_.out (by kernel_rfl)) ?_
    try go_wp2_with (first | (go_at_call 27; (refine (tag_Subtags.calls (⟨#[]⟩ : ByteArray) _ _ ([] : List ByteArray) (⟨#[]⟩ : ByteArray) (⟨#[]⟩ : ByteArray) _ _ ([] : List ByteArray) _ _ ([] : List (S44)) _ _ ([] : List ByteArray) (⟨#[]⟩ : ByteArray) t583 _ ?side1 ?side2 ?side3 ?side4 ?side5 ?side6 ?side7 ?side8 A17.out).mono ?_); (case side1 => exact Kd.C_nil _ _); (case side2 => exact Nat.le_refl _); (case side3 => exact Kd.C_nil _ _); (case side4 => exact Nat.le_refl _); (case side5 => exact Kd.C_nil _ _); (case side6 => exact Nat.le_refl _); (case side7 => exact Kd.C_nil _ _); (case side8 => exact Nat.le_refl _); rintro e w50 ⟨v584, rfl, ho0, hb⟩; have n0_ := Aside0.mk (rL_ (by (with_reducible repeat (first | apply rA_ | apply rN_ | apply rD_)); exact HO508.out) (Kd.R_base ho0) hb); have n1_ := Aside0.mk (rL_ (by (with_reducible repeat (first | apply rA_ | apply rN_ | apply rD_)); exact HO513.out) (Kd.R_base ho0) hb); have n2_ := Aside0.mk (Kd.S_elder' (by (with_reducible repeat (first | apply tA_ | apply tN_ | apply tD_)); exact HO516.out) (Kd.R_base ho0) hb); have n3_ := Aside0.mk (rL_ (by (with_reducible repeat (first | apply rA_ | apply rN_ | apply rD_)); exact HO519.out) (Kd.R_base ho0) hb); have n4_ := Aside0.mk (rL_ (by (with_reducible repeat (first | apply rA_ | apply rN_ | apply rD_)); exact HO523.out) (Kd.R_base ho0) hb); have n5_ := Aside0.mk (rL_ (by (with_reducible repeat (first | apply rA_ | apply rN_ | apply rD_)); exact HO527.out) (Kd.R_base ho0) hb); have n6_ := Aside0.mk (rL_ (by (with_reducible repeat (first | apply rA_ | apply rN_ | apply rD_)); exact HO532.out) (Kd.R_base ho0) hb); have n7_ := Aside0.mk (Kd.S_elder' (by (with_reducible repeat (first | apply tA_ | apply tN_ | apply tD_)); exact HO535.out) (Kd.R_base ho0) hb); have n8_ := Aside0.mk (rL_ (by (with_reducible repeat (first | apply rA_ | apply rN_ | apply rD_)); exact HO538.out) (Kd.R_base ho0) hb); have n9_ := Aside0.mk (rL_ (by (with_reducible repeat (first | apply rA_ | apply rN_ | apply rD_)); exact HO542.out) (Kd.R_base ho0) hb); have n10_ := Aside0.mk (rL_ (by (with_reducible repeat (first | apply rA_ | apply rN_ | apply rD_)); exact HO547.out) (Kd.R_base ho0) hb); have n11_ := Aside0.mk (rL_ (by (with_reducible repeat (first | apply rA_ | apply rN_ | apply rD_)); exact HO552.out) (Kd.R_base ho0) hb); have n12_ := Aside0.mk (Kd.S_elder' (by (with_reducible repeat (first | apply tA_ | apply tN_ | apply tD_)); exact HO555.out) (Kd.R_base ho0) hb); have n13_ := Aside0.mk (rL_ (by (with_reducible repeat (first | apply rA_ | apply rN_ | apply rD_)); exact HO558.out) (Kd.R_base ho0) hb); have n14_ := Aside0.mk (rL_ (by (with_reducible repeat (first | apply rA_ | apply rN_ | apply rD_)); exact HO562.out) (Kd.R_base ho0) hb); have n15_ := Aside0.mk (rL_ (by (with_reducible repeat (first | apply rA_ | apply rN_ | apply rD_)); exact HO566.out) (Kd.R_base ho0) hb); have n16_ := Aside0.mk (rL_ (by (with_reducible repeat (first | apply rA_ | apply rN_ | apply rD_)); exact HO571.out) (Kd.R_base ho0) hb); have n17_ := Aside0.mk (Kd.S_elder' (by (with_reducible repeat (first | apply tA_ | apply tN_ | apply tD_)); exact HO574.out) (Kd.R_base ho0) hb); have n18_ := Aside0.mk (rL_ (by (with_reducible repeat (first | apply rA_ | apply rN_ | apply rD_)); exact HO577.out) (Kd.R_base ho0) hb); have n19_ := Aside0.mk (rL_ (by (with_reducible repeat (first | apply rA_ | apply rN_ | apply rD_)); exact HO581.out) (Kd.R_base ho0) hb); have n20_ := Aside0.mk (Kd.R_lower (Kd.R_new' (Kd.R_new' (Kd.R_new' (Kd.R_new' (Kd.R_new' (Kd.R_new' (Kd.R_new' (Kd.R_new' (Kd.R_new' (Kd.R_new' (Kd.R_new' (Kd.R_new' (Kd.R_new' (Kd.R_new' (Kd.R_new' (Kd.R_new' ho0 (rT_ (by (with_reducible repeat (first | apply rA_ | apply rN_ | apply rD_)); exact HO508.out))) (rT_ (by (with_reducible repeat (first | apply rA_ | apply rN_ | apply rD_)); exact HO513.out))) (rT_ (by (with_reducible repeat (first | apply rA_ | apply rN_ | apply rD_)); exact HO519.out))) (rT_ (by (with_reducible repeat (first | apply rA_ | apply rN_ | apply rD_)); exact HO523.out))) (rT_ (by (with_reducible repeat (first | apply rA_ | apply rN_ | apply rD_)); exact HO527.out))) (rT_ (by (with_reducible repeat (first | apply rA_ | apply rN_ | apply rD_)); exact HO532.out))) (rT_ (by (with_reducible repeat (first | apply rA_ | apply rN_ | apply rD_)); exact HO538.out))) (rT_ (by (with_reducible repeat (first | apply rA_ | apply rN_ | apply rD_)); exact HO542.out))) (rT_ (by (with_reducible repeat (first | apply rA_ | apply rN_ | apply rD_)); exact HO547.out))) (rT_ (by (with_reducible repeat (first | apply rA_ | apply rN_ | apply rD_)); exact HO552.out))) (rT_ (by (with_reducible repeat (first | apply rA_ | apply rN_ | apply rD_)); exact HO558.out))) (rT_ (by (with_reducible repeat (first | apply rA_ | apply rN_ | apply rD_)); exact HO562.out))) (rT_ (by (with_reducible repeat (first | apply rA_ | apply rN_ | apply rD_)); exact HO566.out))) (rT_ (by (with_reducible repeat (first | apply rA_ | apply rN_ | apply rD_)); exact HO571.out))) (rT_ (by (with_reducible repeat (first | apply rA_ | apply rN_ | apply rD_)); exact HO577.out))) (rT_ (by (with_reducible repeat (first | apply rA_ | apply rN_ | apply rD_)); exact HO581.out))) (wZ_ (by repeat (first | (with_reducible first | exact HB.out | apply wA_ | apply wN_ | apply wD_ | refine wS_ ?_ GE502.out | refine wS_ ?_ GE503.out) | exact HB.out)))); have n21_ := Aside0.mk (blk_below (g := gb502) (o := .cells #[.string a0_0, .slice A0_1 l0_1.length c0_1, .string a0_2, .string a0_3, .slice A0_4 l0_4.length c0_4, .slice A0_5 l0_5.length c0_5, .slice A0_6 l0_6.length c0_6, .string a0_7] 28 (0, 0)) (by (with_reducible repeat (first | refine bN_ ?_ _ | refine bD_ ?_ | refine bA_ ?_ _)); exact BK502.out) hb); have n22_ := Aside0.mk (blk_below (g := gb503) (o := .cells #[.int .i64 a1_0, .int .i64 a1_1, .int .i64 a1_2, .int .i64 a1_3, .slice A1_4 l1_4.length c1_4, .slice A1_5 l1_5.length c1_5, .slice A1_6 l1_6.length c1_6, .int .i64 a1_7] 24 (0, 0)) (by (with_reducible repeat (first | refine bN_ ?_ _ | refine bD_ ?_ | refine bA_ ?_ _)); exact BK503.out) hb); have n23_ := Aside0.mk (wT_ (by repeat (first | (with_reducible first | exact HB.out | apply wA_ | apply wN_ | apply wD_ | refine wS_ ?_ GE502.out | refine wS_ ?_ GE503.out) | exact HB.out)) hb); clear HO508; clear HO513; clear HO516; clear HO519; clear HO523; clear HO527; clear HO532; clear HO535; clear HO538; clear HO542; clear HO547; clear HO552; clear HO555; clear HO558; clear HO562; clear HO566; clear HO571; clear HO574; clear HO577; clear HO581; clear BK502; clear BK503; clear HB; have HO508 := n0_; have HO513 := n1_; have HO516 := n2_; have HO519 := n3_; have HO523 := n4_; have HO527 := n5_; have HO532 := n6_; have HO535 := n7_; have HO538 := n8_; have HO542 := n9_; have HO547 := n10_; have HO552 := n11_; have HO555 := n12_; have HO558 := n13_; have HO562 := n14_; have HO566 := n15_; have HO571 := n16_; have HO574 := n17_; have HO577 := n18_; have HO581 := n19_; have HO585 := n20_; have BK502 := n21_; have BK503 := n22_; have HB := n23_; clear n0_ n1_ n2_ n3_ n4_ n5_ n6_ n7_ n8_ n9_ n10_ n11_ n12_ n13_ n14_ n15_ n16_ n17_ n18_ n19_ n20_ n21_ n22_ n23_; (try clear hb); (try clear hb2); (try clear hk); (try clear hi); (try clear ho0); obtain ⟨Ao51, co51, eo51⟩ := Kd.R_slice HO585.out; subst eo51))
    go_ret
    exact ⟨by first | rfl | (simp [errW_none, errW_some] <;> rfl) | (simp [*, errW_none, errW_some] <;> rfl), by repeat (first | (with_reducible first | exact HB.out | apply wA_ | apply wN_ | apply wD_ | refine wS_ ?_ GE502.out | refine wS_ ?_ GE503.out) | exact HB.out)⟩
   ·replace c16 := Bool.eq_false_iff.mpr c16
    subst c16
    have H1 : (some false) = some r := by rw [if_neg (show ¬ (false = true) by decide)] at H; exact H
    clear H
    have H := H1
    clear H1
    exact absurd ((Option.some.inj H).trans HRT.out) (by decide)
  ·replace c15 := Bool.eq_false_iff.mpr c15
   subst c15
   have H1 : (some false) = some r := by rw [if_neg (show ¬ (false = true) by decide)] at H; exact H
   clear H
   have H := H1
   clear H1
   exact absurd ((Option.some.inj H).trans HRT.out) (by decide)
 ·replace c14 := Bool.eq_false_iff.mpr c14
  subst c14
  have H1 : (some false) = some r := by rw [if_neg (show ¬ (false = true) by decide)] at H; exact H
  clear H
  have H := H1
  clear H1
  exact absurd ((Option.some.inj H).trans HRT.out) (by decide)

end Go.Proofs.Ytljadeeoaoiilaa.P
