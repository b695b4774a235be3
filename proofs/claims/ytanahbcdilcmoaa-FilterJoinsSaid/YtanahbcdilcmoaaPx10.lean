-- Written for this claim by the session's own run of the print, functions proved by hand put in.
import Derived.Test.YtanahbcdilcmoaaPx0
import Derived.Test.YtanahbcdilcmoaaPx1
import Derived.Test.YtanahbcdilcmoaaPx2
import Derived.Test.YtanahbcdilcmoaaPx3
import Derived.Test.YtanahbcdilcmoaaPx9
namespace Go.Proofs.Ytanahbcdilcmoaa.P
open Go.RowKit Go.Proofs.YtanahbcdilcmoaaW.PrintWords Go.Proofs.YtanahbcdilcmoaaW.PrintLast Go.Proofs.YtanahbcdilcmoaaW.PrintMore
attribute [local go_sem] max2_int min2_int max_two min_two max_three min_three max_four min_four   -- for this text's walks alone
set_option linter.unusedVariables false
set_option linter.unusedSimpArgs false

/-! ### isoglosslaw20_FilterMore: function 5 -/
def isoglosslaw20_FilterMore.f (k : Nat) (a0 : ByteArray) (a1 : ByteArray) : Option (Bool) := (isoglosslaw20_awake.f k).bind fun t267 => ((isoglosslaw20_short.f a0).bind fun t268 => ((isoglosslaw20_short.f a1).bind fun t269 => ((isoglossref04_Split.f k t268).bind fun t270 => (if 0 < (t270.length : Int) then ((some (([rdOf ByteArray.empty t270 0, (⟨#[42]⟩ : ByteArray)] : List ByteArray) : List ByteArray)).bind fun y274 => (if 1 ≤ (t270.length : Int) then ((some (t270.drop 1 : List ByteArray)).bind fun y277 => (if y274.length + y277.length < 8796093022208 then ((some (y274 ++ y277 : List ByteArray)).bind fun y281 => ((filter_MatchesExtended.f k t268 t269).bind fun t284 => (if t267 = true then ((filter_Matches.f k t268 t269).bind fun t285 => (if t285 = true then (if t284 = true then (if t268.size + 2 ≤ 9223372036854775807 then ((filter_MatchesExtended.f k (t268 ++ (⟨#[45, 42]⟩ : ByteArray)) t269).bind fun t286 => (if (t286 == t284) = true then ((isoglossref04_Join.f k y281).bind fun t287 => ((filter_MatchesExtended.f k t287 t269).bind fun t288 => (if (t288 == t284) = true then ((filter_Basic.f k t268).bind fun t289 => (if t289 = true then ((filter_Extended.f k t268).bind fun t290 => (some t290)) else (some true))) else (some false)))) else (some false))) else (none)) else (some false)) else (if t268.size + 2 ≤ 9223372036854775807 then ((filter_MatchesExtended.f k (t268 ++ (⟨#[45, 42]⟩ : ByteArray)) t269).bind fun t291 => (if (t291 == t284) = true then ((isoglossref04_Join.f k y281).bind fun t292 => ((filter_MatchesExtended.f k t292 t269).bind fun t293 => (if (t293 == t284) = true then ((filter_Basic.f k t268).bind fun t294 => (if t294 = true then ((filter_Extended.f k t268).bind fun t295 => (some t295)) else (some true))) else (some false)))) else (some false))) else (none)))) else (some false)))) else (none))) else (none))) else (none)))))
theorem isoglosslaw20_FilterMore.mono : ∀ a0 a1 k, LeO (isoglosslaw20_FilterMore.f k a0 a1) (isoglosslaw20_FilterMore.f (k + 1) a0 a1) := by
 intro a0 a1 k
 unfold isoglosslaw20_FilterMore.f
 repeat' first
   | (with_reducible exact filter_Basic.mono _ _)
   | (with_reducible exact filter_Extended.mono _ _)
   | (with_reducible exact filter_Matches.mono _ _ _)
   | (with_reducible exact filter_MatchesExtended.mono _ _ _)
   | (with_reducible exact isoglosslaw20_awake.mono _)
   | (with_reducible exact isoglossref04_Join.mono _ _)
   | (with_reducible exact isoglossref04_Split.mono _ _)
   | (with_reducible exact LeO.refl _)
   | (with_reducible exact LeO.none _)
   | (with_reducible refine LeO.ite ?_ ?_)
   | (with_reducible refine LeO.bind ?_ (fun _ => ?_))
   | exact filter_Basic.mono _ _
   | exact filter_Extended.mono _ _
   | exact filter_Matches.mono _ _ _
   | exact filter_MatchesExtended.mono _ _ _
   | exact isoglosslaw20_awake.mono _
   | exact isoglossref04_Join.mono _ _
   | exact isoglossref04_Split.mono _ _
   | exact LeO.none _
   | refine LeO.ite ?_ ?_
   | refine LeO.bind ?_ (fun _ => ?_)
def isoglosslaw20_FilterMore.T5 : Bool × List (List Nat × List Nat) := (true, [([], []), ([0], [0]), ([1], [1]), ([2], [2]), ([], []), ([4], [4]), ([3, 5], [3, 5]), ([6, 6, 0, 1, 2, 3, 4, 5, 6], [6])])
def isoglosslaw20_FilterMore.B5 : List Nat := [0, 1, 3, 7, 0, 16, 63, 127]
theorem isoglosslaw20_FilterMore.tab5 : rtab .any (opsOf Try.f5 5) = isoglosslaw20_FilterMore.T5 := by kernel_rfl
theorem isoglosslaw20_FilterMore.bits5 : waitsOk isoglosslaw20_FilterMore.T5.2 isoglosslaw20_FilterMore.B5 = true := by kernel_rfl
set_option maxHeartbeats 8000000 in
set_option maxRecDepth 100000 in
theorem isoglosslaw20_FilterMore.calls (k : Nat) (a0 : ByteArray) (a1 : ByteArray) (r : Bool) (w : World) (h : isoglosslaw20_FilterMore.f k a0 a1 = some r) :
  Calls Try.prog 5 #[.string a0, .string a1] w fun e w' => e = .returned (.bool r) ∧ Below w.heap.size w w' := by
 have HB := Aside0.mk (Below.refl w.heap.size w)
 have H : ((isoglosslaw20_awake.f k).bind fun t267 => ((isoglosslaw20_short.f a0).bind fun t268 => ((isoglosslaw20_short.f a1).bind fun t269 => ((isoglossref04_Split.f k t268).bind fun t270 => (if 0 < (t270.length : Int) then ((some (([rdOf ByteArray.empty t270 0, (⟨#[42]⟩ : ByteArray)] : List ByteArray) : List ByteArray)).bind fun y274 => (if 1 ≤ (t270.length : Int) then ((some (t270.drop 1 : List ByteArray)).bind fun y277 => (if y274.length + y277.length < 8796093022208 then ((some (y274 ++ y277 : List ByteArray)).bind fun y281 => ((filter_MatchesExtended.f k t268 t269).bind fun t284 => (if t267 = true then ((filter_Matches.f k t268 t269).bind fun t285 => (if t285 = true then (if t284 = true then (if t268.size + 2 ≤ 9223372036854775807 then ((filter_MatchesExtended.f k (t268 ++ (⟨#[45, 42]⟩ : ByteArray)) t269).bind fun t286 => (if (t286 == t284) = true then ((isoglossref04_Join.f k y281).bind fun t287 => ((filter_MatchesExtended.f k t287 t269).bind fun t288 => (if (t288 == t284) = true then ((filter_Basic.f k t268).bind fun t289 => (if t289 = true then ((filter_Extended.f k t268).bind fun t290 => (some t290)) else (some true))) else (some false)))) else (some false))) else (none)) else (some false)) else (if t268.size + 2 ≤ 9223372036854775807 then ((filter_MatchesExtended.f k (t268 ++ (⟨#[45, 42]⟩ : ByteArray)) t269).bind fun t291 => (if (t291 == t284) = true then ((isoglossref04_Join.f k y281).bind fun t292 => ((filter_MatchesExtended.f k t292 t269).bind fun t293 => (if (t293 == t284) = true then ((filter_Basic.f k t268).bind fun t294 => (if t294 = true then ((filter_Extended.f k t268).bind fun t295 => (some t295)) else (some true))) else (some false)))) else (some false))) else (none)))) else (some false)))) else (none))) else (none))) else (none)))))) = some r := h
 clear h
 replace H := Option.bind_eq_some_iff.mp H
 obtain ⟨t267, A30, H⟩ := H
 replace H : ((isoglosslaw20_short.f a0).bind fun t268 => ((isoglosslaw20_short.f a1).bind fun t269 => ((isoglossref04_Split.f k t268).bind fun t270 => (if 0 < (t270.length : Int) then ((some (([rdOf ByteArray.empty t270 0, (⟨#[42]⟩ : ByteArray)] : List ByteArray) : List ByteArray)).bind fun y274 => (if 1 ≤ (t270.length : Int) then ((some (t270.drop 1 : List ByteArray)).bind fun y277 => (if y274.length + y277.length < 8796093022208 then ((some (y274 ++ y277 : List ByteArray)).bind fun y281 => ((filter_MatchesExtended.f k t268 t269).bind fun t284 => (if t267 = true then ((filter_Matches.f k t268 t269).bind fun t285 => (if t285 = true then (if t284 = true then (if t268.size + 2 ≤ 9223372036854775807 then ((filter_MatchesExtended.f k (t268 ++ (⟨#[45, 42]⟩ : ByteArray)) t269).bind fun t286 => (if (t286 == t284) = true then ((isoglossref04_Join.f k y281).bind fun t287 => ((filter_MatchesExtended.f k t287 t269).bind fun t288 => (if (t288 == t284) = true then ((filter_Basic.f k t268).bind fun t289 => (if t289 = true then ((filter_Extended.f k t268).bind fun t290 => (some t290)) else (some true))) else (some false)))) else (some false))) else (none)) else (some false)) else (if t268.size + 2 ≤ 9223372036854775807 then ((filter_MatchesExtended.f k (t268 ++ (⟨#[45, 42]⟩ : ByteArray)) t269).bind fun t291 => (if (t291 == t284) = true then ((isoglossref04_Join.f k y281).bind fun t292 => ((filter_MatchesExtended.f k t292 t269).bind fun t293 => (if (t293 == t284) = true then ((filter_Basic.f k t268).bind fun t294 => (if t294 = true then ((filter_Extended.f k t268).bind fun t295 => (some t295)) else (some true))) else (some false)))) else (some false))) else (none)))) else (some false)))) else (none))) else (none))) else (none))))) = some r := H
 have A3 := Aside0.mk A30
 clear A30
 replace H := Option.bind_eq_some_iff.mp H
 obtain ⟨t268, A40, H⟩ := H
 replace H : ((isoglosslaw20_short.f a1).bind fun t269 => ((isoglossref04_Split.f k t268).bind fun t270 => (if 0 < (t270.length : Int) then ((some (([rdOf ByteArray.empty t270 0, (⟨#[42]⟩ : ByteArray)] : List ByteArray) : List ByteArray)).bind fun y274 => (if 1 ≤ (t270.length : Int) then ((some (t270.drop 1 : List ByteArray)).bind fun y277 => (if y274.length + y277.length < 8796093022208 then ((some (y274 ++ y277 : List ByteArray)).bind fun y281 => ((filter_MatchesExtended.f k t268 t269).bind fun t284 => (if t267 = true then ((filter_Matches.f k t268 t269).bind fun t285 => (if t285 = true then (if t284 = true then (if t268.size + 2 ≤ 9223372036854775807 then ((filter_MatchesExtended.f k (t268 ++ (⟨#[45, 42]⟩ : ByteArray)) t269).bind fun t286 => (if (t286 == t284) = true then ((isoglossref04_Join.f k y281).bind fun t287 => ((filter_MatchesExtended.f k t287 t269).bind fun t288 => (if (t288 == t284) = true then ((filter_Basic.f k t268).bind fun t289 => (if t289 = true then ((filter_Extended.f k t268).bind fun t290 => (some t290)) else (some true))) else (some false)))) else (some false))) else (none)) else (some false)) else (if t268.size + 2 ≤ 9223372036854775807 then ((filter_MatchesExtended.f k (t268 ++ (⟨#[45, 42]⟩ : ByteArray)) t269).bind fun t291 => (if (t291 == t284) = true then ((isoglossref04_Join.f k y281).bind fun t292 => ((filter_MatchesExtended.f k t292 t269).bind fun t293 => (if (t293 == t284) = true then ((filter_Basic.f k t268).bind fun t294 => (if t294 = true then ((filter_Extended.f k t268).bind fun t295 => (some t295)) else (some true))) else (some false)))) else (some false))) else (none)))) else (some false)))) else (none))) else (none))) else (none)))) = some r := H
 have A4 := Aside0.mk A40
 clear A40
 replace H := Option.bind_eq_some_iff.mp H
 obtain ⟨t269, A50, H⟩ := H
 replace H : ((isoglossref04_Split.f k t268).bind fun t270 => (if 0 < (t270.length : Int) then ((some (([rdOf ByteArray.empty t270 0, (⟨#[42]⟩ : ByteArray)] : List ByteArray) : List ByteArray)).bind fun y274 => (if 1 ≤ (t270.length : Int) then ((some (t270.drop 1 : List ByteArray)).bind fun y277 => (if y274.length + y277.length < 8796093022208 then ((some (y274 ++ y277 : List ByteArray)).bind fun y281 => ((filter_MatchesExtended.f k t268 t269).bind fun t284 => (if t267 = true then ((filter_Matches.f k t268 t269).bind fun t285 => (if t285 = true then (if t284 = true then (if t268.size + 2 ≤ 9223372036854775807 then ((filter_MatchesExtended.f k (t268 ++ (⟨#[45, 42]⟩ : ByteArray)) t269).bind fun t286 => (if (t286 == t284) = true then ((isoglossref04_Join.f k y281).bind fun t287 => ((filter_MatchesExtended.f k t287 t269).bind fun t288 => (if (t288 == t284) = true then ((filter_Basic.f k t268).bind fun t289 => (if t289 = true then ((filter_Extended.f k t268).bind fun t290 => (some t290)) else (some true))) else (some false)))) else (some false))) else (none)) else (some false)) else (if t268.size + 2 ≤ 9223372036854775807 then ((filter_MatchesExtended.f k (t268 ++ (⟨#[45, 42]⟩ : ByteArray)) t269).bind fun t291 => (if (t291 == t284) = true then ((isoglossref04_Join.f k y281).bind fun t292 => ((filter_MatchesExtended.f k t292 t269).bind fun t293 => (if (t293 == t284) = true then ((filter_Basic.f k t268).bind fun t294 => (if t294 = true then ((filter_Extended.f k t268).bind fun t295 => (some t295)) else (some true))) else (some false)))) else (some false))) else (none)))) else (some false)))) else (none))) else (none))) else (none))) = some r := H
 have A5 := Aside0.mk A50
 clear A50
 replace H := Option.bind_eq_some_iff.mp H
 obtain ⟨t270, A60, H⟩ := H
 replace H : (if 0 < (t270.length : Int) then ((some (([rdOf ByteArray.empty t270 0, (⟨#[42]⟩ : ByteArray)] : List ByteArray) : List ByteArray)).bind fun y274 => (if 1 ≤ (t270.length : Int) then ((some (t270.drop 1 : List ByteArray)).bind fun y277 => (if y274.length + y277.length < 8796093022208 then ((some (y274 ++ y277 : List ByteArray)).bind fun y281 => ((filter_MatchesExtended.f k t268 t269).bind fun t284 => (if t267 = true then ((filter_Matches.f k t268 t269).bind fun t285 => (if t285 = true then (if t284 = true then (if t268.size + 2 ≤ 9223372036854775807 then ((filter_MatchesExtended.f k (t268 ++ (⟨#[45, 42]⟩ : ByteArray)) t269).bind fun t286 => (if (t286 == t284) = true then ((isoglossref04_Join.f k y281).bind fun t287 => ((filter_MatchesExtended.f k t287 t269).bind fun t288 => (if (t288 == t284) = true then ((filter_Basic.f k t268).bind fun t289 => (if t289 = true then ((filter_Extended.f k t268).bind fun t290 => (some t290)) else (some true))) else (some false)))) else (some false))) else (none)) else (some false)) else (if t268.size + 2 ≤ 9223372036854775807 then ((filter_MatchesExtended.f k (t268 ++ (⟨#[45, 42]⟩ : ByteArray)) t269).bind fun t291 => (if (t291 == t284) = true then ((isoglossref04_Join.f k y281).bind fun t292 => ((filter_MatchesExtended.f k t292 t269).bind fun t293 => (if (t293 == t284) = true then ((filter_Basic.f k t268).bind fun t294 => (if t294 = true then ((filter_Extended.f k t268).bind fun t295 => (some t295)) else (some true))) else (some false)))) else (some false))) else (none)))) else (some false)))) else (none))) else (none))) else (none)) = some r := H
 have A6 := Aside0.mk A60
 clear A60
 by_cases c7 : 0 < (t270.length : Int)
 ·rw [if_pos c7] at H
  have c7b0 : decide (0 < (t270.length : Int)) = true := decide_eq_true c7
  have c7b1 : decide (0 < t270.length) = true := decide_eq_true (by omega)
  clear c7
  obtain ⟨y274, hy274⟩ : ∃ y_ : List ByteArray, y_ = (([rdOf ByteArray.empty t270 0, (⟨#[42]⟩ : ByteArray)] : List ByteArray)) := ⟨_, rfl⟩
  replace H : (if 1 ≤ (t270.length : Int) then ((some (t270.drop 1 : List ByteArray)).bind fun y277 => (if y274.length + y277.length < 8796093022208 then ((some (y274 ++ y277 : List ByteArray)).bind fun y281 => ((filter_MatchesExtended.f k t268 t269).bind fun t284 => (if t267 = true then ((filter_Matches.f k t268 t269).bind fun t285 => (if t285 = true then (if t284 = true then (if t268.size + 2 ≤ 9223372036854775807 then ((filter_MatchesExtended.f k (t268 ++ (⟨#[45, 42]⟩ : ByteArray)) t269).bind fun t286 => (if (t286 == t284) = true then ((isoglossref04_Join.f k y281).bind fun t287 => ((filter_MatchesExtended.f k t287 t269).bind fun t288 => (if (t288 == t284) = true then ((filter_Basic.f k t268).bind fun t289 => (if t289 = true then ((filter_Extended.f k t268).bind fun t290 => (some t290)) else (some true))) else (some false)))) else (some false))) else (none)) else (some false)) else (if t268.size + 2 ≤ 9223372036854775807 then ((filter_MatchesExtended.f k (t268 ++ (⟨#[45, 42]⟩ : ByteArray)) t269).bind fun t291 => (if (t291 == t284) = true then ((isoglossref04_Join.f k y281).bind fun t292 => ((filter_MatchesExtended.f k t292 t269).bind fun t293 => (if (t293 == t284) = true then ((filter_Basic.f k t268).bind fun t294 => (if t294 = true then ((filter_Extended.f k t268).bind fun t295 => (some t295)) else (some true))) else (some false)))) else (some false))) else (none)))) else (some false)))) else (none))) else (none)) = some r := by first | (rw [hy274]; with_reducible exact H) | (have H2_ := (Option.bind_some _ _).symm.trans H; rw [hy274]; with_reducible exact H2_) | (have H2_ := (Option.bind_some _ _).symm.trans H; with_reducible exact H2_) | with_reducible exact H | (rw [hy274]; exact H) | exact H
  have Ny274 := Aside0.mk hy274
  clear hy274
  by_cases c8 : 1 ≤ (t270.length : Int)
  ·rw [if_pos c8] at H
   have c8b0 := eq_true c8
   have c8b1 : decide (1 ≤ (t270.length : Int)) = true := decide_eq_true c8
   clear c8
   obtain ⟨y277, hy277⟩ : ∃ y_ : List ByteArray, y_ = (t270.drop 1) := ⟨_, rfl⟩
   replace H : (if y274.length + y277.length < 8796093022208 then ((some (y274 ++ y277 : List ByteArray)).bind fun y281 => ((filter_MatchesExtended.f k t268 t269).bind fun t284 => (if t267 = true then ((filter_Matches.f k t268 t269).bind fun t285 => (if t285 = true then (if t284 = true then (if t268.size + 2 ≤ 9223372036854775807 then ((filter_MatchesExtended.f k (t268 ++ (⟨#[45, 42]⟩ : ByteArray)) t269).bind fun t286 => (if (t286 == t284) = true then ((isoglossref04_Join.f k y281).bind fun t287 => ((filter_MatchesExtended.f k t287 t269).bind fun t288 => (if (t288 == t284) = true then ((filter_Basic.f k t268).bind fun t289 => (if t289 = true then ((filter_Extended.f k t268).bind fun t290 => (some t290)) else (some true))) else (some false)))) else (some false))) else (none)) else (some false)) else (if t268.size + 2 ≤ 9223372036854775807 then ((filter_MatchesExtended.f k (t268 ++ (⟨#[45, 42]⟩ : ByteArray)) t269).bind fun t291 => (if (t291 == t284) = true then ((isoglossref04_Join.f k y281).bind fun t292 => ((filter_MatchesExtended.f k t292 t269).bind fun t293 => (if (t293 == t284) = true then ((filter_Basic.f k t268).bind fun t294 => (if t294 = true then ((filter_Extended.f k t268).bind fun t295 => (some t295)) else (some true))) else (some false)))) else (some false))) else (none)))) else (some false)))) else (none)) = some r := by first | (rw [hy277]; with_reducible exact H) | (have H2_ := (Option.bind_some _ _).symm.trans H; rw [hy277]; with_reducible exact H2_) | (have H2_ := (Option.bind_some _ _).symm.trans H; with_reducible exact H2_) | with_reducible exact H | (rw [hy277]; exact H) | exact H
   have Ny277 := Aside0.mk hy277
   clear hy277
   by_cases c9 : y274.length + y277.length < 8796093022208
   ·rw [if_pos c9] at H
    have LMc9 := Aside0.mk c9
    clear c9
    obtain ⟨y281, hy281⟩ : ∃ y_ : List ByteArray, y_ = (y274 ++ y277) := ⟨_, rfl⟩
    replace H : ((filter_MatchesExtended.f k t268 t269).bind fun t284 => (if t267 = true then ((filter_Matches.f k t268 t269).bind fun t285 => (if t285 = true then (if t284 = true then (if t268.size + 2 ≤ 9223372036854775807 then ((filter_MatchesExtended.f k (t268 ++ (⟨#[45, 42]⟩ : ByteArray)) t269).bind fun t286 => (if (t286 == t284) = true then ((isoglossref04_Join.f k y281).bind fun t287 => ((filter_MatchesExtended.f k t287 t269).bind fun t288 => (if (t288 == t284) = true then ((filter_Basic.f k t268).bind fun t289 => (if t289 = true then ((filter_Extended.f k t268).bind fun t290 => (some t290)) else (some true))) else (some false)))) else (some false))) else (none)) else (some false)) else (if t268.size + 2 ≤ 9223372036854775807 then ((filter_MatchesExtended.f k (t268 ++ (⟨#[45, 42]⟩ : ByteArray)) t269).bind fun t291 => (if (t291 == t284) = true then ((isoglossref04_Join.f k y281).bind fun t292 => ((filter_MatchesExtended.f k t292 t269).bind fun t293 => (if (t293 == t284) = true then ((filter_Basic.f k t268).bind fun t294 => (if t294 = true then ((filter_Extended.f k t268).bind fun t295 => (some t295)) else (some true))) else (some false)))) else (some false))) else (none)))) else (some false))) = some r := by first | (rw [hy281]; with_reducible exact H) | (have H2_ := (Option.bind_some _ _).symm.trans H; rw [hy281]; with_reducible exact H2_) | (have H2_ := (Option.bind_some _ _).symm.trans H; with_reducible exact H2_) | with_reducible exact H | (rw [hy281]; exact H) | exact H
    have Ny281 := Aside0.mk hy281
    clear hy281
    replace H := Option.bind_eq_some_iff.mp H
    obtain ⟨t284, A100, H⟩ := H
    replace H : (if t267 = true then ((filter_Matches.f k t268 t269).bind fun t285 => (if t285 = true then (if t284 = true then (if t268.size + 2 ≤ 9223372036854775807 then ((filter_MatchesExtended.f k (t268 ++ (⟨#[45, 42]⟩ : ByteArray)) t269).bind fun t286 => (if (t286 == t284) = true then ((isoglossref04_Join.f k y281).bind fun t287 => ((filter_MatchesExtended.f k t287 t269).bind fun t288 => (if (t288 == t284) = true then ((filter_Basic.f k t268).bind fun t289 => (if t289 = true then ((filter_Extended.f k t268).bind fun t290 => (some t290)) else (some true))) else (some false)))) else (some false))) else (none)) else (some false)) else (if t268.size + 2 ≤ 9223372036854775807 then ((filter_MatchesExtended.f k (t268 ++ (⟨#[45, 42]⟩ : ByteArray)) t269).bind fun t291 => (if (t291 == t284) = true then ((isoglossref04_Join.f k y281).bind fun t292 => ((filter_MatchesExtended.f k t292 t269).bind fun t293 => (if (t293 == t284) = true then ((filter_Basic.f k t268).bind fun t294 => (if t294 = true then ((filter_Extended.f k t268).bind fun t295 => (some t295)) else (some true))) else (some false)))) else (some false))) else (none)))) else (some false)) = some r := H
    have A10 := Aside0.mk A100
    clear A100
    by_cases c11 : t267 = true
    ·subst c11
     have H1 : ((filter_Matches.f k t268 t269).bind fun t285 => (if t285 = true then (if t284 = true then (if t268.size + 2 ≤ 9223372036854775807 then ((filter_MatchesExtended.f k (t268 ++ (⟨#[45, 42]⟩ : ByteArray)) t269).bind fun t286 => (if (t286 == t284) = true then ((isoglossref04_Join.f k y281).bind fun t287 => ((filter_MatchesExtended.f k t287 t269).bind fun t288 => (if (t288 == t284) = true then ((filter_Basic.f k t268).bind fun t289 => (if t289 = true then ((filter_Extended.f k t268).bind fun t290 => (some t290)) else (some true))) else (some false)))) else (some false))) else (none)) else (some false)) else (if t268.size + 2 ≤ 9223372036854775807 then ((filter_MatchesExtended.f k (t268 ++ (⟨#[45, 42]⟩ : ByteArray)) t269).bind fun t291 => (if (t291 == t284) = true then ((isoglossref04_Join.f k y281).bind fun t292 => ((filter_MatchesExtended.f k t292 t269).bind fun t293 => (if (t293 == t284) = true then ((filter_Basic.f k t268).bind fun t294 => (if t294 = true then ((filter_Extended.f k t268).bind fun t295 => (some t295)) else (some true))) else (some false)))) else (some false))) else (none)))) = some r := by rw [if_pos rfl] at H; exact H
     clear H
     have H := H1
     clear H1
     replace H := Option.bind_eq_some_iff.mp H
     obtain ⟨t285, A120, H⟩ := H
     replace H : (if t285 = true then (if t284 = true then (if t268.size + 2 ≤ 9223372036854775807 then ((filter_MatchesExtended.f k (t268 ++ (⟨#[45, 42]⟩ : ByteArray)) t269).bind fun t286 => (if (t286 == t284) = true then ((isoglossref04_Join.f k y281).bind fun t287 => ((filter_MatchesExtended.f k t287 t269).bind fun t288 => (if (t288 == t284) = true then ((filter_Basic.f k t268).bind fun t289 => (if t289 = true then ((filter_Extended.f k t268).bind fun t290 => (some t290)) else (some true))) else (some false)))) else (some false))) else (none)) else (some false)) else (if t268.size + 2 ≤ 9223372036854775807 then ((filter_MatchesExtended.f k (t268 ++ (⟨#[45, 42]⟩ : ByteArray)) t269).bind fun t291 => (if (t291 == t284) = true then ((isoglossref04_Join.f k y281).bind fun t292 => ((filter_MatchesExtended.f k t292 t269).bind fun t293 => (if (t293 == t284) = true then ((filter_Basic.f k t268).bind fun t294 => (if t294 = true then ((filter_Extended.f k t268).bind fun t295 => (some t295)) else (some true))) else (some false)))) else (some false))) else (none))) = some r := H
     have A12 := Aside0.mk A120
     clear A120
     by_cases c13 : t285 = true
     ·subst c13
      have H1 : (if t284 = true then (if t268.size + 2 ≤ 9223372036854775807 then ((filter_MatchesExtended.f k (t268 ++ (⟨#[45, 42]⟩ : ByteArray)) t269).bind fun t286 => (if (t286 == t284) = true then ((isoglossref04_Join.f k y281).bind fun t287 => ((filter_MatchesExtended.f k t287 t269).bind fun t288 => (if (t288 == t284) = true then ((filter_Basic.f k t268).bind fun t289 => (if t289 = true then ((filter_Extended.f k t268).bind fun t290 => (some t290)) else (some true))) else (some false)))) else (some false))) else (none)) else (some false)) = some r := by rw [if_pos rfl] at H; exact H
      clear H
      have H := H1
      clear H1
      by_cases c14 : t284 = true
      ·subst c14
       have H1 : (if t268.size + 2 ≤ 9223372036854775807 then ((filter_MatchesExtended.f k (t268 ++ (⟨#[45, 42]⟩ : ByteArray)) t269).bind fun t286 => (if (t286 == true) = true then ((isoglossref04_Join.f k y281).bind fun t287 => ((filter_MatchesExtended.f k t287 t269).bind fun t288 => (if (t288 == true) = true then ((filter_Basic.f k t268).bind fun t289 => (if t289 = true then ((filter_Extended.f k t268).bind fun t290 => (some t290)) else (some true))) else (some false)))) else (some false))) else (none)) = some r := by rw [if_pos rfl] at H; exact H
       clear H
       have H := H1
       clear H1
       by_cases c15 : t268.size + 2 ≤ 9223372036854775807
       ·rw [if_pos c15] at H
        have c15b0 := eq_true c15
        have c15b1 : decide (t268.size + 2 ≤ 9223372036854775807) = true := decide_eq_true c15
        try have c15b2 : (9223372036854775807 < t268.size + 2) = False := eq_false (Nat.not_lt.2 c15)
        replace H := Option.bind_eq_some_iff.mp H
        obtain ⟨t286, A160, H⟩ := H
        replace H : (if (t286 == true) = true then ((isoglossref04_Join.f k y281).bind fun t287 => ((filter_MatchesExtended.f k t287 t269).bind fun t288 => (if (t288 == true) = true then ((filter_Basic.f k t268).bind fun t289 => (if t289 = true then ((filter_Extended.f k t268).bind fun t290 => (some t290)) else (some true))) else (some false)))) else (some false)) = some r := H
        have A16 := Aside0.mk A160
        clear A160
        by_cases c17 : (t286 == true) = true
        ·rw [if_pos c17] at H
         have c17b0 : (t286 == true) = true := c17
         (try (have c17b1 : decide (t286 = true) = true := by simpa using c17))
         (try (have c17b2 : (t286 == true) = true := by simpa using c17))
         clear c17
         replace H := Option.bind_eq_some_iff.mp H
         obtain ⟨t287, A180, H⟩ := H
         replace H : ((filter_MatchesExtended.f k t287 t269).bind fun t288 => (if (t288 == true) = true then ((filter_Basic.f k t268).bind fun t289 => (if t289 = true then ((filter_Extended.f k t268).bind fun t290 => (some t290)) else (some true))) else (some false))) = some r := H
         have A18 := Aside0.mk A180
         clear A180
         replace H := Option.bind_eq_some_iff.mp H
         obtain ⟨t288, A190, H⟩ := H
         replace H : (if (t288 == true) = true then ((filter_Basic.f k t268).bind fun t289 => (if t289 = true then ((filter_Extended.f k t268).bind fun t290 => (some t290)) else (some true))) else (some false)) = some r := H
         have A19 := Aside0.mk A190
         clear A190
         by_cases c20 : (t288 == true) = true
         ·rw [if_pos c20] at H
          have c20b0 : (t288 == true) = true := c20
          (try (have c20b1 : decide (t288 = true) = true := by simpa using c20))
          (try (have c20b2 : (t288 == true) = true := by simpa using c20))
          clear c20
          replace H := Option.bind_eq_some_iff.mp H
          obtain ⟨t289, A210, H⟩ := H
          replace H : (if t289 = true then ((filter_Extended.f k t268).bind fun t290 => (some t290)) else (some true)) = some r := H
          have A21 := Aside0.mk A210
          clear A210
          by_cases c22 : t289 = true
          ·subst c22
           have H1 : ((filter_Extended.f k t268).bind fun t290 => (some t290)) = some r := by rw [if_pos rfl] at H; exact H
           clear H
           have H := H1
           clear H1
           replace H := Option.bind_eq_some_iff.mp H
           obtain ⟨t290, A230, H⟩ := H
           replace H : (some t290) = some r := H
           have A23 := Aside0.mk A230
           clear A230
           obtain rfl := Option.some.inj H
           go_enter Try.func5, Try.ntmps5
           try go_wp2_with (first | ((with_reducible refine gate_callee (f := 9) rfl ?_); refine goesL_ (some 9) rfl rfl Try.func9 (by kernel_rfl) rfl #[] rfl (by (try simp only [List.map_toArray, List.map_cons, List.map_nil]); first | done | rfl | (simp only [List.length_drop, List.length_take]; rfl)) ?_; (with_reducible refine (isoglosslaw20_awake.calls k  true _ A3.out).mono ?_); rintro e w24 ⟨rfl, hb⟩; refine ⟨_, rfl, ?_⟩; have n0_ := Aside0.mk (below_step (by repeat (first | (with_reducible first | exact HB.out | apply below_alloc | apply pw_below_drewN | apply below_drew1) | exact HB.out)) hb); clear HB; have HB := n0_; clear n0_; (try clear hb); (try clear hb2); (try clear hk); (try clear hi)) | ((with_reducible refine gate_callee (f := 10) rfl ?_); refine goesL_ (some 11) rfl rfl Try.func10 (by kernel_rfl) rfl #[.string a0] rfl (by (try simp only [List.map_toArray, List.map_cons, List.map_nil]); first | done | rfl | (simp only [List.length_drop, List.length_take]; rfl)) ?_; (with_reducible refine (isoglosslaw20_short.calls a0 t268 _ A4.out).mono ?_); rintro e w' ⟨rfl, ⟨nd, rfl⟩⟩; refine ⟨_, rfl, ?_⟩) | ((with_reducible refine gate_callee (f := 10) rfl ?_); refine goesL_ (some 13) rfl rfl Try.func10 (by kernel_rfl) rfl #[.string a1] rfl (by (try simp only [List.map_toArray, List.map_cons, List.map_nil]); first | done | rfl | (simp only [List.length_drop, List.length_take]; rfl)) ?_; (with_reducible refine (isoglosslaw20_short.calls a1 t269 _ A5.out).mono ?_); rintro e w' ⟨rfl, ⟨nd, rfl⟩⟩; refine ⟨_, rfl, ?_⟩) | ((with_reducible refine gate_callee (f := 16) rfl ?_); refine goesL_ (some 15) rfl rfl Try.func16 (by kernel_rfl) rfl #[.string t268] rfl (by (try simp only [List.map_toArray, List.map_cons, List.map_nil]); first | done | rfl | (simp only [List.length_drop, List.length_take]; rfl)) ?_; (with_reducible refine (isoglossref04_Split.calls k t268 t270 _ A6.out).mono ?_); rintro e w25 ⟨v271, rfl, ho0, hb⟩; refine ⟨_, rfl, ?_⟩; have n0_ := Aside0.mk (Kd.R_lower ho0 (below_size (by repeat (first | (with_reducible first | exact HB.out | apply below_alloc | apply pw_below_drewN | apply below_drew1) | exact HB.out)))); have n1_ := Aside0.mk (below_step (by repeat (first | (with_reducible first | exact HB.out | apply below_alloc | apply pw_below_drewN | apply below_drew1) | exact HB.out)) hb); clear HB; have HO272 := n0_; have HB := n1_; clear n0_ n1_; (try clear hb); (try clear hb2); (try clear hk); (try clear hi); (try clear ho0)))
           have n0_ := Aside0.mk (Kd.R_drew HO272.out)
           have n1_ := Aside0.mk (below_drew1 HB.out)
           clear HO272
           clear HB
           have HO272 := n0_
           have HB := n1_
           clear n0_ n1_
           obtain ⟨Ao27, co27, eo27⟩ := Kd.R_slice HO272.out
           (first | subst eo27 | (injection eo27 with f1_ f2_ f3_; have f4_ := f1_.symm; have f5_ := f3_.symm; clear f1_ f2_ f3_; subst f4_; subst f5_))
           have p273 : 0 ≤ (0 : Int) := (by omega)
           have q273 : 0 < (t270.length : Int) := of_decide_eq_true (by first | (with_reducible assumption) | assumption)
           obtain ⟨ad273, e273, hx273_0⟩ := Kd.at_string (Kd.R_reads' HO272.out).2.2 0 p273 q273
           cases e273
           have qi273 : (0 < t270.length) = True := eq_true (by omega)
           (try rw [show ((0 : Int)).toNat = 0 from rfl] at hx273_0)
           (try rw [Addr.add_zero'] at hx273_0)
           replace p273 := eq_true p273
           replace q273 := eq_true q273
           have q28 : (1 : Int) ≤ ((t270.length : Int) : Int) := of_decide_eq_true (by first | (with_reducible assumption) | assumption)
           obtain ⟨i028, hi028, _, hsz28, _⟩ := info_parts info9
           have hroom28 : t270.length ≤ co27 := (Kd.R_reads' HO272.out).2.1
           have hC28 : Kd.C Kd.string _ (some ad273) t270.length t270 := (Kd.R_reads' HO272.out).2.2
           have hcut28 := cut_from (P := Try.prog) 25 9 .i64 Try.underlying25 hi028 1 hsz28 (some ad273) t270.length co27 1 (by omega) q28
           have hr28 := Kd.C_drop (m := (1 : Int).toNat) (c := co27) hC28 (by omega) hroom28
           obtain ⟨A28, hA28⟩ : ∃ A1, A1 = (if co27 = (1 : Int).toNat then (some ad273) else ((some ad273) : Option Addr).map (·.add ((1 : Int).toNat * 1))) := ⟨_, rfl⟩
           obtain ⟨c28, hc28⟩ : ∃ c1, c1 = co27 - (1 : Int).toNat := ⟨_, rfl⟩
           have hy28 : y277.length = t270.length - (1 : Int).toNat := (by rw [Ny277.out, List.length_drop] <;> omega)
           rw [show (t270).drop (1 : Int).toNat = y277 from Ny277.out.symm] at hr28
           replace hr28 : Kd.C Kd.string _ A28 y277.length y277 := (by rw [hA28]; exact hr28)
           rw [← hy28, ← hA28, ← hc28] at hcut28
           have HR280 := Aside0.mk hr28
           have HC280 := Aside0.mk (show y277.length ≤ c28 from by rw [hy28, hc28]; exact Nat.sub_le_sub_right hroom28 _)
           clear hr28 hC28 hroom28 hi028 hsz28 hc28
           have KY28 := Aside0.mk hy28
           have KA28 := Aside0.mk hA28
           clear hy28 hA28
           have KL28 := Aside0.mk (show 1 ≤ t270.length from by omega)
           replace q28 := eq_true q28
           refine start_ (n := 8) (S := fun w' => w'.cell? ad273 = some (.string (rdOf ByteArray.empty t270 0))) (ds := [6]) #[false, false, false, false, false, false, false, false] (by kernel_rfl) rfl rfl (hx273_0) (fun hHeld => ?_); refine with_tabW isoglosslaw20_FilterMore.tab5 isoglosslaw20_FilterMore.bits5 (fun HT_ HW_ => ?_)
           generalize w25.drew = w26 at HO272 HB HR280 hx273_0 hHeld ⊢
           refine pure_ (i := 0) (N := some 16) (v := ?_) (a' := ?_) #[true, false, false, false, false, false, false, false] rfl rfl (any_of HT_.out (by kernel_rfl)) (fun _ _ _ h => h) (Or.inl ⟨by rfl, ?_⟩) ?_ ?_
           rotate_left
           ·intro w'
            go_simp
            with_reducible rfl
           rotate_left
           ·simp only [Act.put, List.setIfInBounds_toArray, List.set_cons_zero, List.set_cons_succ, i64_w, i32_w]
            rfl
           refine pure_ (i := 1) (N := some 17) (v := ?_) (a' := ?_) #[true, true, false, false, false, false, false, false] rfl rfl (any_of HT_.out (by kernel_rfl)) (fun _ _ _ h => h) (Or.inl ⟨by rfl, ?_⟩) ?_ ?_
           rotate_left
           ·intro w'
            go_simp
            with_reducible rfl
           rotate_left
           ·simp only [Act.put, List.setIfInBounds_toArray, List.set_cons_zero, List.set_cons_succ, i64_w, i32_w]
            rfl
           refine pure_ (i := 4) (N := some 20) (v := ?_) (a' := ?_) #[true, true, false, false, true, false, false, false] rfl rfl (any_of HT_.out (by kernel_rfl)) (fun _ _ _ h => h) (Or.inl ⟨by rfl, ?_⟩) ?_ ?_
           rotate_left
           ·intro w'
            go_simp
            with_reducible rfl
           rotate_left
           ·simp only [Act.put, List.setIfInBounds_toArray, List.set_cons_zero, List.set_cons_succ, i64_w, i32_w]
            rfl
           refine pure_ (i := 5) (N := some 21) (v := ?_) (a' := ?_) #[true, true, false, false, true, true, false, false] rfl rfl (any_of HT_.out (by kernel_rfl)) (fun _ _ _ h => h) (Or.inl ⟨by rfl, ?_⟩) ?_ ?_
           rotate_left
           ·intro w'
            go_simp
            with_reducible rfl
           rotate_left
           ·simp only [Act.put, List.setIfInBounds_toArray, List.set_cons_zero, List.set_cons_succ, i64_w, i32_w]
            rfl
           refine take_ (i := 2) (N := some 18) (v := ?_) (a' := ?_) #[true, true, true, false, true, true, false, false] rfl rfl (take_ofW HT_.out HW_.out (by kernel_rfl)) (fun _ _ _ h => h) (Or.inl ⟨by rfl, ?_⟩) hHeld ?_ ?_
           rotate_left
           ·intro w' s0
            go_simp
            with_reducible rfl
           rotate_left
           ·simp only [Act.put, List.setIfInBounds_toArray, List.set_cons_zero, List.set_cons_succ, i64_w, i32_w]
            rfl
           refine one_ (i := 3) (N := some 19) #[true, true, true, true, true, true, false, false] rfl rfl (one_of HT_.out (by kernel_rfl)) (by decide) (fun K hK => ?_)
           refine Kd.R_lit_step Kd.string _ 9 ?hg (N := 19) ?hd (xs := ([rdOf ByteArray.empty t270 0, (⟨#[42]⟩ : ByteArray)] : List ByteArray)) (inner := [.string (rdOf ByteArray.empty t270 0), .string (⟨#[42]⟩ : ByteArray)]) (ok := fun _ => True) (okp := fun _ => True) ?hr ?hp (fun _ hk => hk) trivial (Below.refl _ _) (Nat.le_refl _) (by simp) ?_; (case hd => rfl); (case hg => rfl); (case hr => first | (go_simp; done) | (go_simp; rfl)); (case hp => exact (Reps.one (show Kd.M Kd.string _ _ _ (rdOf ByteArray.empty t270 0) [.string (rdOf ByteArray.empty t270 0)] from rfl) (Reps.one (show Kd.M Kd.string _ _ _ (⟨#[42]⟩ : ByteArray) [.string (⟨#[42]⟩ : ByteArray)] from rfl) (Reps.none _ _))))
           intro v275 w29 ho30 hb hg_ hnew_
           have HS0_ := (hb.cell (World.block_lt_of_cell? _ _ (hHeld))).trans (hHeld)
           clear hg_ hnew_
           (first | rw [← Ny274.out] at ho30 | (simp only [Int.reduceToNat] at ho30; rw [← Ny274.out] at ho30))
           have n0_ := Aside0.mk (Kd.R_elder' (by (with_reducible repeat (first | apply Kd.R_alloc | apply Kd.R_drewN | apply Kd.R_drew)); exact HO272.out) (Kd.R_base ho30) hb)
           have n1_ := Aside0.mk (Kd.R_lower (Kd.R_new' ho30 (Kd.R_lt (by (with_reducible repeat (first | apply Kd.R_alloc | apply Kd.R_drewN | apply Kd.R_drew)); exact HO272.out))) (below_size (by repeat (first | (with_reducible first | exact HB.out | apply below_alloc | apply pw_below_drewN | apply below_drew1) | exact HB.out))))
           have n2_ := Aside0.mk (Kd.C_below (by repeat (first | (with_reducible exact HR280.out) | (with_reducible refine Kd.C_alloc ?_ _) | (with_reducible refine Kd.C_drewN ?_ _) | (with_reducible refine Kd.C_drew ?_) | exact HR280.out)) hb)
           have n3_ := Aside0.mk (below_step (by repeat (first | (with_reducible first | exact HB.out | apply below_alloc | apply pw_below_drewN | apply below_drew1) | exact HB.out)) hb)
           clear HO272
           clear HR280
           clear HB
           have HO272 := n0_
           have HO276 := n1_
           have HR280 := n2_
           have HB := n3_
           clear n0_ n1_ n2_ n3_
           clear hb ho30
           refine hK.out _ _ (HS0_) (fun hHeld => ?_)
           clear hK K
           refine norm_ (a' := ?_) ?_ ?_
           rotate_left
           ·show Act.put _ (some 19) _ = _
            simp only [Act.put, List.setIfInBounds_toArray, List.set_cons_zero, List.set_cons_succ, i64_w, i32_w]
            rfl
           refine last_ (i := 6) (N := some 22) #[true, true, true, true, true, true, true, false] rfl rfl (one_of HT_.out (by kernel_rfl)) (by decide) (fun K hK => ?_)
           refine Kd.R_append_rows_step Kd.string (w0 := w) w.heap.size (by rfl) (.tmp 19) (.tmp 21) 25 9 (.string ⟨#[]⟩) 16 rfl Try.underlying25 info9 rfl (by decide) (by omega) v275 y274 y277 _ _ _ (fun k_ => some k_ ≠ (.slice (some ad273) t270.length co27 : Value).ownBlock) (fun _ => False) rfl rfl ?aO ?aR (fun _ _ h => h) (fun _ h => h.elim) ?aF ?aB ?aS ?aL ?_
           (case aR => repeat (first | exact (by repeat (first | (with_reducible exact HR280.out) | (with_reducible refine Kd.C_alloc ?_ _) | (with_reducible refine Kd.C_drewN ?_ _) | (with_reducible refine Kd.C_drew ?_) | exact HR280.out)) | (with_reducible refine Kd.C_alloc ?_ _) | (with_reducible refine Kd.C_drewN ?_ _) | (with_reducible refine Kd.C_drew ?_)))
           (case aB => exact (by repeat (first | (with_reducible first | exact HB.out | apply below_alloc | apply pw_below_drewN | apply below_drew1) | exact HB.out)))
           (case aF => exact (fun k_ hk => Kd.fresh' (Kd.R_lt (by (with_reducible repeat (first | apply Kd.R_alloc | apply Kd.R_drewN | apply Kd.R_drew)); exact HO272.out)) k_ hk))
           (case aO => exact (by (with_reducible repeat (first | apply Kd.R_alloc | apply Kd.R_drewN | apply Kd.R_drew)); exact Kd.R_mono HO276.out (fun _ hk => hk.2)))
           (case aS => exact (below_size (by repeat (first | (with_reducible first | exact HB.out | apply below_alloc | apply pw_below_drewN | apply below_drew1) | exact HB.out))))
           (case aL => have := LMc9.out; omega)
           intro v282 w31 ho hb hg hat
           rw [← Ny281.out] at ho
           have n0_ := Aside0.mk (Kd.R_after (ok := (fun _ => True)) (by (with_reducible repeat (first | apply Kd.R_alloc | apply Kd.R_drewN | apply Kd.R_drew)); exact HO272.out) hg hat)
           have n1_ := Aside0.mk (hb)
           have n2_ := Aside0.mk ((show Kd.C Kd.string w31 A28 y277.length y277 from by rw [Ny277.out, KA28.out]; exact Kd.C_drop (m := 1) (c := co27) ((Kd.R_reads' (Kd.R_after (ok := (fun _ => True)) (by (with_reducible repeat (first | apply Kd.R_alloc | apply Kd.R_drewN | apply Kd.R_drew)); exact HO272.out) hg hat)).2.2) KL28.out ((Kd.R_reads' (Kd.R_after (ok := (fun _ => True)) (by (with_reducible repeat (first | apply Kd.R_alloc | apply Kd.R_drewN | apply Kd.R_drew)); exact HO272.out) hg hat)).2.1)))
           have n3_ := Aside0.mk (ho)
           clear HO272
           clear HB
           clear HR280
           clear HO276
           have HO272 := n0_
           have HB := n1_
           have HR280 := n2_
           have HO283 := n3_
           clear n0_ n1_ n2_ n3_
           clear ho hb hg hat
           refine hK.out _ _ ?_
           clear hK K
           refine norm_ (a' := ?_) ?_ ?_
           rotate_left
           ·show Act.put _ (some 22) _ = _
            simp only [Act.put, List.setIfInBounds_toArray, List.set_cons_zero, List.set_cons_succ, i64_w, i32_w]
            rfl
           refine pure_ (i := 7) (N := some 7) (v := ?_) (a' := ?_) #[true, true, true, true, true, true, true, true] rfl rfl (any_of HT_.out (by kernel_rfl)) (fun _ _ _ h => h) (Or.inl ⟨by rfl, ?_⟩) ?_ ?_
           rotate_left
           ·intro w'
            go_simp
            with_reducible rfl
           rotate_left
           ·simp only [Act.put, List.setIfInBounds_toArray, List.set_cons_zero, List.set_cons_succ, i64_w, i32_w]
            rfl
           refine done_ (done_of HT_.out (by kernel_rfl)) ?_
           try go_wp2_with (first | ((with_reducible refine gate_callee (f := 13) rfl ?_); refine goesL_ (some 25) rfl rfl Try.func13 (by kernel_rfl) rfl #[.string t268, .string t269] rfl (by (try simp only [List.map_toArray, List.map_cons, List.map_nil]); first | done | rfl | (simp only [List.length_drop, List.length_take]; rfl)) ?_; (with_reducible refine (filter_MatchesExtended.calls k t268 t269 true _ A10.out).mono ?_); rintro e w32 ⟨rfl, hb⟩; refine ⟨_, rfl, ?_⟩; have n0_ := Aside0.mk (Kd.R_below (by (with_reducible repeat (first | apply Kd.R_alloc | apply Kd.R_drewN | apply Kd.R_drew)); exact HO272.out) hb); have n1_ := Aside0.mk (Kd.R_below (by (with_reducible repeat (first | apply Kd.R_alloc | apply Kd.R_drewN | apply Kd.R_drew)); exact HO283.out) hb); have n2_ := Aside0.mk (Kd.C_below (by repeat (first | (with_reducible exact HR280.out) | (with_reducible refine Kd.C_alloc ?_ _) | (with_reducible refine Kd.C_drewN ?_ _) | (with_reducible refine Kd.C_drew ?_) | exact HR280.out)) hb); have n3_ := Aside0.mk (below_step (by repeat (first | (with_reducible first | exact HB.out | apply below_alloc | apply pw_below_drewN | apply below_drew1) | exact HB.out)) hb); clear HO272; clear HO283; clear HR280; clear HB; have HO272 := n0_; have HO283 := n1_; have HR280 := n2_; have HB := n3_; clear n0_ n1_ n2_ n3_; (try clear hb); (try clear hb2); (try clear hk); (try clear hi)) | (go_at_call 12; (with_reducible refine (filter_Matches.calls k t268 t269 true _ A12.out).mono ?_); rintro e w33 ⟨rfl, hb⟩; have n0_ := Aside0.mk (Kd.R_below (by (with_reducible repeat (first | apply Kd.R_alloc | apply Kd.R_drewN | apply Kd.R_drew)); exact HO272.out) hb); have n1_ := Aside0.mk (Kd.R_below (by (with_reducible repeat (first | apply Kd.R_alloc | apply Kd.R_drewN | apply Kd.R_drew)); exact HO283.out) hb); have n2_ := Aside0.mk (Kd.C_below (by repeat (first | (with_reducible exact HR280.out) | (with_reducible refine Kd.C_alloc ?_ _) | (with_reducible refine Kd.C_drewN ?_ _) | (with_reducible refine Kd.C_drew ?_) | exact HR280.out)) hb); have n3_ := Aside0.mk (below_step (by repeat (first | (with_reducible first | exact HB.out | apply below_alloc | apply pw_below_drewN | apply below_drew1) | exact HB.out)) hb); clear HO272; clear HO283; clear HR280; clear HB; have HO272 := n0_; have HO283 := n1_; have HR280 := n2_; have HB := n3_; clear n0_ n1_ n2_ n3_; (try clear hb); (try clear hb2); (try clear hk); (try clear hi)) | (go_at_call 13; (with_reducible refine (filter_MatchesExtended.calls k (t268 ++ (⟨#[45, 42]⟩ : ByteArray)) t269 t286 _ A16.out).mono ?_); rintro e w34 ⟨rfl, hb⟩; have n0_ := Aside0.mk (Kd.R_below (by (with_reducible repeat (first | apply Kd.R_alloc | apply Kd.R_drewN | apply Kd.R_drew)); exact HO272.out) hb); have n1_ := Aside0.mk (Kd.R_below (by (with_reducible repeat (first | apply Kd.R_alloc | apply Kd.R_drewN | apply Kd.R_drew)); exact HO283.out) hb); have n2_ := Aside0.mk (Kd.C_below (by repeat (first | (with_reducible exact HR280.out) | (with_reducible refine Kd.C_alloc ?_ _) | (with_reducible refine Kd.C_drewN ?_ _) | (with_reducible refine Kd.C_drew ?_) | exact HR280.out)) hb); have n3_ := Aside0.mk (below_step (by repeat (first | (with_reducible first | exact HB.out | apply below_alloc | apply pw_below_drewN | apply below_drew1) | exact HB.out)) hb); clear HO272; clear HO283; clear HR280; clear HB; have HO272 := n0_; have HO283 := n1_; have HR280 := n2_; have HB := n3_; clear n0_ n1_ n2_ n3_; (try clear hb); (try clear hb2); (try clear hk); (try clear hi); obtain ⟨Ao35, co35, eo35⟩ := Kd.R_slice HO283.out; subst eo35) | (go_at_call 17; (with_reducible refine (isoglossref04_Join.calls k _ _ y281 t287 _ ?side1 ?side2 A18.out).mono ?_); (case side1 => repeat (first | exact (Kd.R_reads' HO283.out).2.2 | (with_reducible refine Kd.C_alloc ?_ _) | (with_reducible refine Kd.C_drewN ?_ _) | (with_reducible refine Kd.C_drew ?_))); (case side2 => exact (Kd.R_reads' HO283.out).2.1); rintro e w' ⟨rfl, ⟨nd, rfl⟩⟩) | (go_at_call 13; (with_reducible refine (filter_MatchesExtended.calls k t287 t269 t288 _ A19.out).mono ?_); rintro e w36 ⟨rfl, hb⟩; have n0_ := Aside0.mk (Kd.R_below (by (with_reducible repeat (first | apply Kd.R_alloc | apply Kd.R_drewN | apply Kd.R_drew)); exact HO272.out) hb); have n1_ := Aside0.mk (Kd.R_below (by (with_reducible repeat (first | apply Kd.R_alloc | apply Kd.R_drewN | apply Kd.R_drew)); exact HO283.out) hb); have n2_ := Aside0.mk (Kd.C_below (by repeat (first | (with_reducible exact HR280.out) | (with_reducible refine Kd.C_alloc ?_ _) | (with_reducible refine Kd.C_drewN ?_ _) | (with_reducible refine Kd.C_drew ?_) | exact HR280.out)) hb); have n3_ := Aside0.mk (below_step (by repeat (first | (with_reducible first | exact HB.out | apply below_alloc | apply pw_below_drewN | apply below_drew1) | exact HB.out)) hb); clear HO272; clear HO283; clear HR280; clear HB; have HO272 := n0_; have HO283 := n1_; have HR280 := n2_; have HB := n3_; clear n0_ n1_ n2_ n3_; (try clear hb); (try clear hb2); (try clear hk); (try clear hi)) | (go_at_call 18; (with_reducible refine (filter_Basic.calls k t268 true _ A21.out).mono ?_); rintro e w37 ⟨rfl, hb⟩; have n0_ := Aside0.mk (Kd.R_below (by (with_reducible repeat (first | apply Kd.R_alloc | apply Kd.R_drewN | apply Kd.R_drew)); exact HO272.out) hb); have n1_ := Aside0.mk (Kd.R_below (by (with_reducible repeat (first | apply Kd.R_alloc | apply Kd.R_drewN | apply Kd.R_drew)); exact HO283.out) hb); have n2_ := Aside0.mk (Kd.C_below (by repeat (first | (with_reducible exact HR280.out) | (with_reducible refine Kd.C_alloc ?_ _) | (with_reducible refine Kd.C_drewN ?_ _) | (with_reducible refine Kd.C_drew ?_) | exact HR280.out)) hb); have n3_ := Aside0.mk (below_step (by repeat (first | (with_reducible first | exact HB.out | apply below_alloc | apply pw_below_drewN | apply below_drew1) | exact HB.out)) hb); clear HO272; clear HO283; clear HR280; clear HB; have HO272 := n0_; have HO283 := n1_; have HR280 := n2_; have HB := n3_; clear n0_ n1_ n2_ n3_; (try clear hb); (try clear hb2); (try clear hk); (try clear hi)) | (go_at_call 19; (with_reducible refine (filter_Extended.calls k t268 t290 _ A23.out).mono ?_); rintro e w38 ⟨rfl, hb⟩; have n0_ := Aside0.mk (Kd.R_below (by (with_reducible repeat (first | apply Kd.R_alloc | apply Kd.R_drewN | apply Kd.R_drew)); exact HO272.out) hb); have n1_ := Aside0.mk (Kd.R_below (by (with_reducible repeat (first | apply Kd.R_alloc | apply Kd.R_drewN | apply Kd.R_drew)); exact HO283.out) hb); have n2_ := Aside0.mk (Kd.C_below (by repeat (first | (with_reducible exact HR280.out) | (with_reducible refine Kd.C_alloc ?_ _) | (with_reducible refine Kd.C_drewN ?_ _) | (with_reducible refine Kd.C_drew ?_) | exact HR280.out)) hb); have n3_ := Aside0.mk (below_step (by repeat (first | (with_reducible first | exact HB.out | apply below_alloc | apply pw_below_drewN | apply below_drew1) | exact HB.out)) hb); clear HO272; clear HO283; clear HR280; clear HB; have HO272 := n0_; have HO283 := n1_; have HR280 := n2_; have HB := n3_; clear n0_ n1_ n2_ n3_; (try clear hb); (try clear hb2); (try clear hk); (try clear hi)))
           go_ret
           exact ⟨by first | rfl | (simp [errW_none, errW_some] <;> rfl) | (simp [*, errW_none, errW_some] <;> rfl), by repeat (first | (with_reducible first | exact HB.out | apply below_alloc | apply pw_below_drewN | apply below_drew1) | exact HB.out)⟩
          ·replace c22 := Bool.eq_false_iff.mpr c22
           subst c22
           have H1 : (some true) = some r := by rw [if_neg (show ¬ (false = true) by decide)] at H; exact H
           clear H
           have H := H1
           clear H1
           obtain rfl := Option.some.inj H
           go_enter Try.func5, Try.ntmps5
           try go_wp2_with (first | ((with_reducible refine gate_callee (f := 9) rfl ?_); refine goesL_ (some 9) rfl rfl Try.func9 (by kernel_rfl) rfl #[] rfl (by (try simp only [List.map_toArray, List.map_cons, List.map_nil]); first | done | rfl | (simp only [List.length_drop, List.length_take]; rfl)) ?_; (with_reducible refine (isoglosslaw20_awake.calls k  true _ A3.out).mono ?_); rintro e w39 ⟨rfl, hb⟩; refine ⟨_, rfl, ?_⟩; have n0_ := Aside0.mk (below_step (by repeat (first | (with_reducible first | exact HB.out | apply below_alloc | apply pw_below_drewN | apply below_drew1) | exact HB.out)) hb); clear HB; have HB := n0_; clear n0_; (try clear hb); (try clear hb2); (try clear hk); (try clear hi)) | ((with_reducible refine gate_callee (f := 10) rfl ?_); refine goesL_ (some 11) rfl rfl Try.func10 (by kernel_rfl) rfl #[.string a0] rfl (by (try simp only [List.map_toArray, List.map_cons, List.map_nil]); first | done | rfl | (simp only [List.length_drop, List.length_take]; rfl)) ?_; (with_reducible refine (isoglosslaw20_short.calls a0 t268 _ A4.out).mono ?_); rintro e w' ⟨rfl, ⟨nd, rfl⟩⟩; refine ⟨_, rfl, ?_⟩) | ((with_reducible refine gate_callee (f := 10) rfl ?_); refine goesL_ (some 13) rfl rfl Try.func10 (by kernel_rfl) rfl #[.string a1] rfl (by (try simp only [List.map_toArray, List.map_cons, List.map_nil]); first | done | rfl | (simp only [List.length_drop, List.length_take]; rfl)) ?_; (with_reducible refine (isoglosslaw20_short.calls a1 t269 _ A5.out).mono ?_); rintro e w' ⟨rfl, ⟨nd, rfl⟩⟩; refine ⟨_, rfl, ?_⟩) | ((with_reducible refine gate_callee (f := 16) rfl ?_); refine goesL_ (some 15) rfl rfl Try.func16 (by kernel_rfl) rfl #[.string t268] rfl (by (try simp only [List.map_toArray, List.map_cons, List.map_nil]); first | done | rfl | (simp only [List.length_drop, List.length_take]; rfl)) ?_; (with_reducible refine (isoglossref04_Split.calls k t268 t270 _ A6.out).mono ?_); rintro e w40 ⟨v271, rfl, ho0, hb⟩; refine ⟨_, rfl, ?_⟩; have n0_ := Aside0.mk (Kd.R_lower ho0 (below_size (by repeat (first | (with_reducible first | exact HB.out | apply below_alloc | apply pw_below_drewN | apply below_drew1) | exact HB.out)))); have n1_ := Aside0.mk (below_step (by repeat (first | (with_reducible first | exact HB.out | apply below_alloc | apply pw_below_drewN | apply below_drew1) | exact HB.out)) hb); clear HB; have HO272 := n0_; have HB := n1_; clear n0_ n1_; (try clear hb); (try clear hb2); (try clear hk); (try clear hi); (try clear ho0)))
           have n0_ := Aside0.mk (Kd.R_drew HO272.out)
           have n1_ := Aside0.mk (below_drew1 HB.out)
           clear HO272
           clear HB
           have HO272 := n0_
           have HB := n1_
           clear n0_ n1_
           obtain ⟨Ao42, co42, eo42⟩ := Kd.R_slice HO272.out
           (first | subst eo42 | (injection eo42 with f1_ f2_ f3_; have f4_ := f1_.symm; have f5_ := f3_.symm; clear f1_ f2_ f3_; subst f4_; subst f5_))
           have p273 : 0 ≤ (0 : Int) := (by omega)
           have q273 : 0 < (t270.length : Int) := of_decide_eq_true (by first | (with_reducible assumption) | assumption)
           obtain ⟨ad273, e273, hx273_0⟩ := Kd.at_string (Kd.R_reads' HO272.out).2.2 0 p273 q273
           cases e273
           have qi273 : (0 < t270.length) = True := eq_true (by omega)
           (try rw [show ((0 : Int)).toNat = 0 from rfl] at hx273_0)
           (try rw [Addr.add_zero'] at hx273_0)
           replace p273 := eq_true p273
           replace q273 := eq_true q273
           have q43 : (1 : Int) ≤ ((t270.length : Int) : Int) := of_decide_eq_true (by first | (with_reducible assumption) | assumption)
           obtain ⟨i043, hi043, _, hsz43, _⟩ := info_parts info9
           have hroom43 : t270.length ≤ co42 := (Kd.R_reads' HO272.out).2.1
           have hC43 : Kd.C Kd.string _ (some ad273) t270.length t270 := (Kd.R_reads' HO272.out).2.2
           have hcut43 := cut_from (P := Try.prog) 25 9 .i64 Try.underlying25 hi043 1 hsz43 (some ad273) t270.length co42 1 (by omega) q43
           have hr43 := Kd.C_drop (m := (1 : Int).toNat) (c := co42) hC43 (by omega) hroom43
           obtain ⟨A43, hA43⟩ : ∃ A1, A1 = (if co42 = (1 : Int).toNat then (some ad273) else ((some ad273) : Option Addr).map (·.add ((1 : Int).toNat * 1))) := ⟨_, rfl⟩
           obtain ⟨c43, hc43⟩ : ∃ c1, c1 = co42 - (1 : Int).toNat := ⟨_, rfl⟩
           have hy43 : y277.length = t270.length - (1 : Int).toNat := (by rw [Ny277.out, List.length_drop] <;> omega)
           rw [show (t270).drop (1 : Int).toNat = y277 from Ny277.out.symm] at hr43
           replace hr43 : Kd.C Kd.string _ A43 y277.length y277 := (by rw [hA43]; exact hr43)
           rw [← hy43, ← hA43, ← hc43] at hcut43
           have HR280 := Aside0.mk hr43
           have HC280 := Aside0.mk (show y277.length ≤ c43 from by rw [hy43, hc43]; exact Nat.sub_le_sub_right hroom43 _)
           clear hr43 hC43 hroom43 hi043 hsz43 hc43
           have KY43 := Aside0.mk hy43
           have KA43 := Aside0.mk hA43
           clear hy43 hA43
           have KL43 := Aside0.mk (show 1 ≤ t270.length from by omega)
           replace q43 := eq_true q43
           refine start_ (n := 8) (S := fun w' => w'.cell? ad273 = some (.string (rdOf ByteArray.empty t270 0))) (ds := [6]) #[false, false, false, false, false, false, false, false] (by kernel_rfl) rfl rfl (hx273_0) (fun hHeld => ?_); refine with_tabW isoglosslaw20_FilterMore.tab5 isoglosslaw20_FilterMore.bits5 (fun HT_ HW_ => ?_)
           generalize w40.drew = w41 at HO272 HB HR280 hx273_0 hHeld ⊢
           refine pure_ (i := 0) (N := some 16) (v := ?_) (a' := ?_) #[true, false, false, false, false, false, false, false] rfl rfl (any_of HT_.out (by kernel_rfl)) (fun _ _ _ h => h) (Or.inl ⟨by rfl, ?_⟩) ?_ ?_
           rotate_left
           ·intro w'
            go_simp
            with_reducible rfl
           rotate_left
           ·simp only [Act.put, List.setIfInBounds_toArray, List.set_cons_zero, List.set_cons_succ, i64_w, i32_w]
            rfl
           refine pure_ (i := 1) (N := some 17) (v := ?_) (a' := ?_) #[true, true, false, false, false, false, false, false] rfl rfl (any_of HT_.out (by kernel_rfl)) (fun _ _ _ h => h) (Or.inl ⟨by rfl, ?_⟩) ?_ ?_
           rotate_left
           ·intro w'
            go_simp
            with_reducible rfl
           rotate_left
           ·simp only [Act.put, List.setIfInBounds_toArray, List.set_cons_zero, List.set_cons_succ, i64_w, i32_w]
            rfl
           refine pure_ (i := 4) (N := some 20) (v := ?_) (a' := ?_) #[true, true, false, false, true, false, false, false] rfl rfl (any_of HT_.out (by kernel_rfl)) (fun _ _ _ h => h) (Or.inl ⟨by rfl, ?_⟩) ?_ ?_
           rotate_left
           ·intro w'
            go_simp
            with_reducible rfl
           rotate_left
           ·simp only [Act.put, List.setIfInBounds_toArray, List.set_cons_zero, List.set_cons_succ, i64_w, i32_w]
            rfl
           refine pure_ (i := 5) (N := some 21) (v := ?_) (a' := ?_) #[true, true, false, false, true, true, false, false] rfl rfl (any_of HT_.out (by kernel_rfl)) (fun _ _ _ h => h) (Or.inl ⟨by rfl, ?_⟩) ?_ ?_
           rotate_left
           ·intro w'
            go_simp
            with_reducible rfl
           rotate_left
           ·simp only [Act.put, List.setIfInBounds_toArray, List.set_cons_zero, List.set_cons_succ, i64_w, i32_w]
            rfl
           refine take_ (i := 2) (N := some 18) (v := ?_) (a' := ?_) #[true, true, true, false, true, true, false, false] rfl rfl (take_ofW HT_.out HW_.out (by kernel_rfl)) (fun _ _ _ h => h) (Or.inl ⟨by rfl, ?_⟩) hHeld ?_ ?_
           rotate_left
           ·intro w' s0
            go_simp
            with_reducible rfl
           rotate_left
           ·simp only [Act.put, List.setIfInBounds_toArray, List.set_cons_zero, List.set_cons_succ, i64_w, i32_w]
            rfl
           refine one_ (i := 3) (N := some 19) #[true, true, true, true, true, true, false, false] rfl rfl (one_of HT_.out (by kernel_rfl)) (by decide) (fun K hK => ?_)
           refine Kd.R_lit_step Kd.string _ 9 ?hg (N := 19) ?hd (xs := ([rdOf ByteArray.empty t270 0, (⟨#[42]⟩ : ByteArray)] : List ByteArray)) (inner := [.string (rdOf ByteArray.empty t270 0), .string (⟨#[42]⟩ : ByteArray)]) (ok := fun _ => True) (okp := fun _ => True) ?hr ?hp (fun _ hk => hk) trivial (Below.refl _ _) (Nat.le_refl _) (by simp) ?_; (case hd => rfl); (case hg => rfl); (case hr => first | (go_simp; done) | (go_simp; rfl)); (case hp => exact (Reps.one (show Kd.M Kd.string _ _ _ (rdOf ByteArray.empty t270 0) [.string (rdOf ByteArray.empty t270 0)] from rfl) (Reps.one (show Kd.M Kd.string _ _ _ (⟨#[42]⟩ : ByteArray) [.string (⟨#[42]⟩ : ByteArray)] from rfl) (Reps.none _ _))))
           intro v275 w44 ho45 hb hg_ hnew_
           have HS0_ := (hb.cell (World.block_lt_of_cell? _ _ (hHeld))).trans (hHeld)
           clear hg_ hnew_
           (first | rw [← Ny274.out] at ho45 | (simp only [Int.reduceToNat] at ho45; rw [← Ny274.out] at ho45))
           have n0_ := Aside0.mk (Kd.R_elder' (by (with_reducible repeat (first | apply Kd.R_alloc | apply Kd.R_drewN | apply Kd.R_drew)); exact HO272.out) (Kd.R_base ho45) hb)
           have n1_ := Aside0.mk (Kd.R_lower (Kd.R_new' ho45 (Kd.R_lt (by (with_reducible repeat (first | apply Kd.R_alloc | apply Kd.R_drewN | apply Kd.R_drew)); exact HO272.out))) (below_size (by repeat (first | (with_reducible first | exact HB.out | apply below_alloc | apply pw_below_drewN | apply below_drew1) | exact HB.out))))
           have n2_ := Aside0.mk (Kd.C_below (by repeat (first | (with_reducible exact HR280.out) | (with_reducible refine Kd.C_alloc ?_ _) | (with_reducible refine Kd.C_drewN ?_ _) | (with_reducible refine Kd.C_drew ?_) | exact HR280.out)) hb)
           have n3_ := Aside0.mk (below_step (by repeat (first | (with_reducible first | exact HB.out | apply below_alloc | apply pw_below_drewN | apply below_drew1) | exact HB.out)) hb)
           clear HO272
           clear HR280
           clear HB
           have HO272 := n0_
           have HO276 := n1_
           have HR280 := n2_
           have HB := n3_
           clear n0_ n1_ n2_ n3_
           clear hb ho45
           refine hK.out _ _ (HS0_) (fun hHeld => ?_)
           clear hK K
           refine norm_ (a' := ?_) ?_ ?_
           rotate_left
           ·show Act.put _ (some 19) _ = _
            simp only [Act.put, List.setIfInBounds_toArray, List.set_cons_zero, List.set_cons_succ, i64_w, i32_w]
            rfl
           refine last_ (i := 6) (N := some 22) #[true, true, true, true, true, true, true, false] rfl rfl (one_of HT_.out (by kernel_rfl)) (by decide) (fun K hK => ?_)
           refine Kd.R_append_rows_step Kd.string (w0 := w) w.heap.size (by rfl) (.tmp 19) (.tmp 21) 25 9 (.string ⟨#[]⟩) 16 rfl Try.underlying25 info9 rfl (by decide) (by omega) v275 y274 y277 _ _ _ (fun k_ => some k_ ≠ (.slice (some ad273) t270.length co42 : Value).ownBlock) (fun _ => False) rfl rfl ?aO ?aR (fun _ _ h => h) (fun _ h => h.elim) ?aF ?aB ?aS ?aL ?_
           (case aR => repeat (first | exact (by repeat (first | (with_reducible exact HR280.out) | (with_reducible refine Kd.C_alloc ?_ _) | (with_reducible refine Kd.C_drewN ?_ _) | (with_reducible refine Kd.C_drew ?_) | exact HR280.out)) | (with_reducible refine Kd.C_alloc ?_ _) | (with_reducible refine Kd.C_drewN ?_ _) | (with_reducible refine Kd.C_drew ?_)))
           (case aB => exact (by repeat (first | (with_reducible first | exact HB.out | apply below_alloc | apply pw_below_drewN | apply below_drew1) | exact HB.out)))
           (case aF => exact (fun k_ hk => Kd.fresh' (Kd.R_lt (by (with_reducible repeat (first | apply Kd.R_alloc | apply Kd.R_drewN | apply Kd.R_drew)); exact HO272.out)) k_ hk))
           (case aO => exact (by (with_reducible repeat (first | apply Kd.R_alloc | apply Kd.R_drewN | apply Kd.R_drew)); exact Kd.R_mono HO276.out (fun _ hk => hk.2)))
           (case aS => exact (below_size (by repeat (first | (with_reducible first | exact HB.out | apply below_alloc | apply pw_below_drewN | apply below_drew1) | exact HB.out))))
           (case aL => have := LMc9.out; omega)
           intro v282 w46 ho hb hg hat
           rw [← Ny281.out] at ho
           have n0_ := Aside0.mk (Kd.R_after (ok := (fun _ => True)) (by (with_reducible repeat (first | apply Kd.R_alloc | apply Kd.R_drewN | apply Kd.R_drew)); exact HO272.out) hg hat)
           have n1_ := Aside0.mk (hb)
           have n2_ := Aside0.mk ((show Kd.C Kd.string w46 A43 y277.length y277 from by rw [Ny277.out, KA43.out]; exact Kd.C_drop (m := 1) (c := co42) ((Kd.R_reads' (Kd.R_after (ok := (fun _ => True)) (by (with_reducible repeat (first | apply Kd.R_alloc | apply Kd.R_drewN | apply Kd.R_drew)); exact HO272.out) hg hat)).2.2) KL43.out ((Kd.R_reads' (Kd.R_after (ok := (fun _ => True)) (by (with_reducible repeat (first | apply Kd.R_alloc | apply Kd.R_drewN | apply Kd.R_drew)); exact HO272.out) hg hat)).2.1)))
           have n3_ := Aside0.mk (ho)
           clear HO272
           clear HB
           clear HR280
           clear HO276
           have HO272 := n0_
           have HB := n1_
           have HR280 := n2_
           have HO283 := n3_
           clear n0_ n1_ n2_ n3_
           clear ho hb hg hat
           refine hK.out _ _ ?_
           clear hK K
           refine norm_ (a' := ?_) ?_ ?_
           rotate_left
           ·show Act.put _ (some 22) _ = _
            simp only [Act.put, List.setIfInBounds_toArray, List.set_cons_zero, List.set_cons_succ, i64_w, i32_w]
            rfl
           refine pure_ (i := 7) (N := some 7) (v := ?_) (a' := ?_) #[true, true, true, true, true, true, true, true] rfl rfl (any_of HT_.out (by kernel_rfl)) (fun _ _ _ h => h) (Or.inl ⟨by rfl, ?_⟩) ?_ ?_
           rotate_left
           ·intro w'
            go_simp
            with_reducible rfl
           rotate_left
           ·simp only [Act.put, List.setIfInBounds_toArray, List.set_cons_zero, List.set_cons_succ, i64_w, i32_w]
            rfl
           refine done_ (done_of HT_.out (by kernel_rfl)) ?_
           try go_wp2_with (first | ((with_reducible refine gate_callee (f := 13) rfl ?_); refine goesL_ (some 25) rfl rfl Try.func13 (by kernel_rfl) rfl #[.string t268, .string t269] rfl (by (try simp only [List.map_toArray, List.map_cons, List.map_nil]); first | done | rfl | (simp only [List.length_drop, List.length_take]; rfl)) ?_; (with_reducible refine (filter_MatchesExtended.calls k t268 t269 true _ A10.out).mono ?_); rintro e w47 ⟨rfl, hb⟩; refine ⟨_, rfl, ?_⟩; have n0_ := Aside0.mk (Kd.R_below (by (with_reducible repeat (first | apply Kd.R_alloc | apply Kd.R_drewN | apply Kd.R_drew)); exact HO272.out) hb); have n1_ := Aside0.mk (Kd.R_below (by (with_reducible repeat (first | apply Kd.R_alloc | apply Kd.R_drewN | apply Kd.R_drew)); exact HO283.out) hb); have n2_ := Aside0.mk (Kd.C_below (by repeat (first | (with_reducible exact HR280.out) | (with_reducible refine Kd.C_alloc ?_ _) | (with_reducible refine Kd.C_drewN ?_ _) | (with_reducible refine Kd.C_drew ?_) | exact HR280.out)) hb); have n3_ := Aside0.mk (below_step (by repeat (first | (with_reducible first | exact HB.out | apply below_alloc | apply pw_below_drewN | apply below_drew1) | exact HB.out)) hb); clear HO272; clear HO283; clear HR280; clear HB; have HO272 := n0_; have HO283 := n1_; have HR280 := n2_; have HB := n3_; clear n0_ n1_ n2_ n3_; (try clear hb); (try clear hb2); (try clear hk); (try clear hi)) | (go_at_call 12; (with_reducible refine (filter_Matches.calls k t268 t269 true _ A12.out).mono ?_); rintro e w48 ⟨rfl, hb⟩; have n0_ := Aside0.mk (Kd.R_below (by (with_reducible repeat (first | apply Kd.R_alloc | apply Kd.R_drewN | apply Kd.R_drew)); exact HO272.out) hb); have n1_ := Aside0.mk (Kd.R_below (by (with_reducible repeat (first | apply Kd.R_alloc | apply Kd.R_drewN | apply Kd.R_drew)); exact HO283.out) hb); have n2_ := Aside0.mk (Kd.C_below (by repeat (first | (with_reducible exact HR280.out) | (with_reducible refine Kd.C_alloc ?_ _) | (with_reducible refine Kd.C_drewN ?_ _) | (with_reducible refine Kd.C_drew ?_) | exact HR280.out)) hb); have n3_ := Aside0.mk (below_step (by repeat (first | (with_reducible first | exact HB.out | apply below_alloc | apply pw_below_drewN | apply below_drew1) | exact HB.out)) hb); clear HO272; clear HO283; clear HR280; clear HB; have HO272 := n0_; have HO283 := n1_; have HR280 := n2_; have HB := n3_; clear n0_ n1_ n2_ n3_; (try clear hb); (try clear hb2); (try clear hk); (try clear hi)) | (go_at_call 13; (with_reducible refine (filter_MatchesExtended.calls k (t268 ++ (⟨#[45, 42]⟩ : ByteArray)) t269 t286 _ A16.out).mono ?_); rintro e w49 ⟨rfl, hb⟩; have n0_ := Aside0.mk (Kd.R_below (by (with_reducible repeat (first | apply Kd.R_alloc | apply Kd.R_drewN | apply Kd.R_drew)); exact HO272.out) hb); have n1_ := Aside0.mk (Kd.R_below (by (with_reducible repeat (first | apply Kd.R_alloc | apply Kd.R_drewN | apply Kd.R_drew)); exact HO283.out) hb); have n2_ := Aside0.mk (Kd.C_below (by repeat (first | (with_reducible exact HR280.out) | (with_reducible refine Kd.C_alloc ?_ _) | (with_reducible refine Kd.C_drewN ?_ _) | (with_reducible refine Kd.C_drew ?_) | exact HR280.out)) hb); have n3_ := Aside0.mk (below_step (by repeat (first | (with_reducible first | exact HB.out | apply below_alloc | apply pw_below_drewN | apply below_drew1) | exact HB.out)) hb); clear HO272; clear HO283; clear HR280; clear HB; have HO272 := n0_; have HO283 := n1_; have HR280 := n2_; have HB := n3_; clear n0_ n1_ n2_ n3_; (try clear hb); (try clear hb2); (try clear hk); (try clear hi); obtain ⟨Ao50, co50, eo50⟩ := Kd.R_slice HO283.out; subst eo50) | (go_at_call 17; (with_reducible refine (isoglossref04_Join.calls k _ _ y281 t287 _ ?side1 ?side2 A18.out).mono ?_); (case side1 => repeat (first | exact (Kd.R_reads' HO283.out).2.2 | (with_reducible refine Kd.C_alloc ?_ _) | (with_reducible refine Kd.C_drewN ?_ _) | (with_reducible refine Kd.C_drew ?_))); (case side2 => exact (Kd.R_reads' HO283.out).2.1); rintro e w' ⟨rfl, ⟨nd, rfl⟩⟩) | (go_at_call 13; (with_reducible refine (filter_MatchesExtended.calls k t287 t269 t288 _ A19.out).mono ?_); rintro e w51 ⟨rfl, hb⟩; have n0_ := Aside0.mk (Kd.R_below (by (with_reducible repeat (first | apply Kd.R_alloc | apply Kd.R_drewN | apply Kd.R_drew)); exact HO272.out) hb); have n1_ := Aside0.mk (Kd.R_below (by (with_reducible repeat (first | apply Kd.R_alloc | apply Kd.R_drewN | apply Kd.R_drew)); exact HO283.out) hb); have n2_ := Aside0.mk (Kd.C_below (by repeat (first | (with_reducible exact HR280.out) | (with_reducible refine Kd.C_alloc ?_ _) | (with_reducible refine Kd.C_drewN ?_ _) | (with_reducible refine Kd.C_drew ?_) | exact HR280.out)) hb); have n3_ := Aside0.mk (below_step (by repeat (first | (with_reducible first | exact HB.out | apply below_alloc | apply pw_below_drewN | apply below_drew1) | exact HB.out)) hb); clear HO272; clear HO283; clear HR280; clear HB; have HO272 := n0_; have HO283 := n1_; have HR280 := n2_; have HB := n3_; clear n0_ n1_ n2_ n3_; (try clear hb); (try clear hb2); (try clear hk); (try clear hi)) | (go_at_call 18; (with_reducible refine (filter_Basic.calls k t268 false _ A21.out).mono ?_); rintro e w52 ⟨rfl, hb⟩; have n0_ := Aside0.mk (Kd.R_below (by (with_reducible repeat (first | apply Kd.R_alloc | apply Kd.R_drewN | apply Kd.R_drew)); exact HO272.out) hb); have n1_ := Aside0.mk (Kd.R_below (by (with_reducible repeat (first | apply Kd.R_alloc | apply Kd.R_drewN | apply Kd.R_drew)); exact HO283.out) hb); have n2_ := Aside0.mk (Kd.C_below (by repeat (first | (with_reducible exact HR280.out) | (with_reducible refine Kd.C_alloc ?_ _) | (with_reducible refine Kd.C_drewN ?_ _) | (with_reducible refine Kd.C_drew ?_) | exact HR280.out)) hb); have n3_ := Aside0.mk (below_step (by repeat (first | (with_reducible first | exact HB.out | apply below_alloc | apply pw_below_drewN | apply below_drew1) | exact HB.out)) hb); clear HO272; clear HO283; clear HR280; clear HB; have HO272 := n0_; have HO283 := n1_; have HR280 := n2_; have HB := n3_; clear n0_ n1_ n2_ n3_; (try clear hb); (try clear hb2); (try clear hk); (try clear hi)))
           go_ret
           exact ⟨by first | rfl | (simp [errW_none, errW_some] <;> rfl) | (simp [*, errW_none, errW_some] <;> rfl), by repeat (first | (with_reducible first | exact HB.out | apply below_alloc | apply pw_below_drewN | apply below_drew1) | exact HB.out)⟩
         ·rw [if_neg c20] at H
          have c20b0 : (t288 == true) = false := by simpa using c20
          (try (have c20b1 : decide (t288 = true) = false := by simpa using c20))
          (try (have c20b2 : (t288 == true) = false := by simpa using c20))
          (try (have c20b3 : ¬ (t288 = true) := by simpa using c20))
          clear c20
          obtain rfl := Option.some.inj H
          go_enter Try.func5, Try.ntmps5
          try go_wp2_with (first | ((with_reducible refine gate_callee (f := 9) rfl ?_); refine goesL_ (some 9) rfl rfl Try.func9 (by kernel_rfl) rfl #[] rfl (by (try simp only [List.map_toArray, List.map_cons, List.map_nil]); first | done | rfl | (simp only [List.length_drop, List.length_take]; rfl)) ?_; (with_reducible refine (isoglosslaw20_awake.calls k  true _ A3.out).mono ?_); rintro e w53 ⟨rfl, hb⟩; refine ⟨_, rfl, ?_⟩; have n0_ := Aside0.mk (below_step (by repeat (first | (with_reducible first | exact HB.out | apply below_alloc | apply pw_below_drewN | apply below_drew1) | exact HB.out)) hb); clear HB; have HB := n0_; clear n0_; (try clear hb); (try clear hb2); (try clear hk); (try clear hi)) | ((with_reducible refine gate_callee (f := 10) rfl ?_); refine goesL_ (some 11) rfl rfl Try.func10 (by kernel_rfl) rfl #[.string a0] rfl (by (try simp only [List.map_toArray, List.map_cons, List.map_nil]); first | done | rfl | (simp only [List.length_drop, List.length_take]; rfl)) ?_; (with_reducible refine (isoglosslaw20_short.calls a0 t268 _ A4.out).mono ?_); rintro e w' ⟨rfl, ⟨nd, rfl⟩⟩; refine ⟨_, rfl, ?_⟩) | ((with_reducible refine gate_callee (f := 10) rfl ?_); refine goesL_ (some 13) rfl rfl Try.func10 (by kernel_rfl) rfl #[.string a1] rfl (by (try simp only [List.map_toArray, List.map_cons, List.map_nil]); first | done | rfl | (simp only [List.length_drop, List.length_take]; rfl)) ?_; (with_reducible refine (isoglosslaw20_short.calls a1 t269 _ A5.out).mono ?_); rintro e w' ⟨rfl, ⟨nd, rfl⟩⟩; refine ⟨_, rfl, ?_⟩) | ((with_reducible refine gate_callee (f := 16) rfl ?_); refine goesL_ (some 15) rfl rfl Try.func16 (by kernel_rfl) rfl #[.string t268] rfl (by (try simp only [List.map_toArray, List.map_cons, List.map_nil]); first | done | rfl | (simp only [List.length_drop, List.length_take]; rfl)) ?_; (with_reducible refine (isoglossref04_Split.calls k t268 t270 _ A6.out).mono ?_); rintro e w54 ⟨v271, rfl, ho0, hb⟩; refine ⟨_, rfl, ?_⟩; have n0_ := Aside0.mk (Kd.R_lower ho0 (below_size (by repeat (first | (with_reducible first | exact HB.out | apply below_alloc | apply pw_below_drewN | apply below_drew1) | exact HB.out)))); have n1_ := Aside0.mk (below_step (by repeat (first | (with_reducible first | exact HB.out | apply below_alloc | apply pw_below_drewN | apply below_drew1) | exact HB.out)) hb); clear HB; have HO272 := n0_; have HB := n1_; clear n0_ n1_; (try clear hb); (try clear hb2); (try clear hk); (try clear hi); (try clear ho0)))
          have n0_ := Aside0.mk (Kd.R_drew HO272.out)
          have n1_ := Aside0.mk (below_drew1 HB.out)
          clear HO272
          clear HB
          have HO272 := n0_
          have HB := n1_
          clear n0_ n1_
          obtain ⟨Ao56, co56, eo56⟩ := Kd.R_slice HO272.out
          (first | subst eo56 | (injection eo56 with f1_ f2_ f3_; have f4_ := f1_.symm; have f5_ := f3_.symm; clear f1_ f2_ f3_; subst f4_; subst f5_))
          have p273 : 0 ≤ (0 : Int) := (by omega)
          have q273 : 0 < (t270.length : Int) := of_decide_eq_true (by first | (with_reducible assumption) | assumption)
          obtain ⟨ad273, e273, hx273_0⟩ := Kd.at_string (Kd.R_reads' HO272.out).2.2 0 p273 q273
          cases e273
          have qi273 : (0 < t270.length) = True := eq_true (by omega)
          (try rw [show ((0 : Int)).toNat = 0 from rfl] at hx273_0)
          (try rw [Addr.add_zero'] at hx273_0)
          replace p273 := eq_true p273
          replace q273 := eq_true q273
          have q57 : (1 : Int) ≤ ((t270.length : Int) : Int) := of_decide_eq_true (by first | (with_reducible assumption) | assumption)
          obtain ⟨i057, hi057, _, hsz57, _⟩ := info_parts info9
          have hroom57 : t270.length ≤ co56 := (Kd.R_reads' HO272.out).2.1
          have hC57 : Kd.C Kd.string _ (some ad273) t270.length t270 := (Kd.R_reads' HO272.out).2.2
          have hcut57 := cut_from (P := Try.prog) 25 9 .i64 Try.underlying25 hi057 1 hsz57 (some ad273) t270.length co56 1 (by omega) q57
          have hr57 := Kd.C_drop (m := (1 : Int).toNat) (c := co56) hC57 (by omega) hroom57
          obtain ⟨A57, hA57⟩ : ∃ A1, A1 = (if co56 = (1 : Int).toNat then (some ad273) else ((some ad273) : Option Addr).map (·.add ((1 : Int).toNat * 1))) := ⟨_, rfl⟩
          obtain ⟨c57, hc57⟩ : ∃ c1, c1 = co56 - (1 : Int).toNat := ⟨_, rfl⟩
          have hy57 : y277.length = t270.length - (1 : Int).toNat := (by rw [Ny277.out, List.length_drop] <;> omega)
          rw [show (t270).drop (1 : Int).toNat = y277 from Ny277.out.symm] at hr57
          replace hr57 : Kd.C Kd.string _ A57 y277.length y277 := (by rw [hA57]; exact hr57)
          rw [← hy57, ← hA57, ← hc57] at hcut57
          have HR280 := Aside0.mk hr57
          have HC280 := Aside0.mk (show y277.length ≤ c57 from by rw [hy57, hc57]; exact Nat.sub_le_sub_right hroom57 _)
          clear hr57 hC57 hroom57 hi057 hsz57 hc57
          have KY57 := Aside0.mk hy57
          have KA57 := Aside0.mk hA57
          clear hy57 hA57
          have KL57 := Aside0.mk (show 1 ≤ t270.length from by omega)
          replace q57 := eq_true q57
          refine start_ (n := 8) (S := fun w' => w'.cell? ad273 = some (.string (rdOf ByteArray.empty t270 0))) (ds := [6]) #[false, false, false, false, false, false, false, false] (by kernel_rfl) rfl rfl (hx273_0) (fun hHeld => ?_); refine with_tabW isoglosslaw20_FilterMore.tab5 isoglosslaw20_FilterMore.bits5 (fun HT_ HW_ => ?_)
          generalize w54.drew = w55 at HO272 HB HR280 hx273_0 hHeld ⊢
          refine pure_ (i := 0) (N := some 16) (v := ?_) (a' := ?_) #[true, false, false, false, false, false, false, false] rfl rfl (any_of HT_.out (by kernel_rfl)) (fun _ _ _ h => h) (Or.inl ⟨by rfl, ?_⟩) ?_ ?_
          rotate_left
          ·intro w'
           go_simp
           with_reducible rfl
          rotate_left
          ·simp only [Act.put, List.setIfInBounds_toArray, List.set_cons_zero, List.set_cons_succ, i64_w, i32_w]
           rfl
          refine pure_ (i := 1) (N := some 17) (v := ?_) (a' := ?_) #[true, true, false, false, false, false, false, false] rfl rfl (any_of HT_.out (by kernel_rfl)) (fun _ _ _ h => h) (Or.inl ⟨by rfl, ?_⟩) ?_ ?_
          rotate_left
          ·intro w'
           go_simp
           with_reducible rfl
          rotate_left
          ·simp only [Act.put, List.setIfInBounds_toArray, List.set_cons_zero, List.set_cons_succ, i64_w, i32_w]
           rfl
          refine pure_ (i := 4) (N := some 20) (v := ?_) (a' := ?_) #[true, true, false, false, true, false, false, false] rfl rfl (any_of HT_.out (by kernel_rfl)) (fun _ _ _ h => h) (Or.inl ⟨by rfl, ?_⟩) ?_ ?_
          rotate_left
          ·intro w'
           go_simp
           with_reducible rfl
          rotate_left
          ·simp only [Act.put, List.setIfInBounds_toArray, List.set_cons_zero, List.set_cons_succ, i64_w, i32_w]
           rfl
          refine pure_ (i := 5) (N := some 21) (v := ?_) (a' := ?_) #[true, true, false, false, true, true, false, false] rfl rfl (any_of HT_.out (by kernel_rfl)) (fun _ _ _ h => h) (Or.inl ⟨by rfl, ?_⟩) ?_ ?_
          rotate_left
          ·intro w'
           go_simp
           with_reducible rfl
          rotate_left
          ·simp only [Act.put, List.setIfInBounds_toArray, List.set_cons_zero, List.set_cons_succ, i64_w, i32_w]
           rfl
          refine take_ (i := 2) (N := some 18) (v := ?_) (a' := ?_) #[true, true, true, false, true, true, false, false] rfl rfl (take_ofW HT_.out HW_.out (by kernel_rfl)) (fun _ _ _ h => h) (Or.inl ⟨by rfl, ?_⟩) hHeld ?_ ?_
          rotate_left
          ·intro w' s0
           go_simp
           with_reducible rfl
          rotate_left
          ·simp only [Act.put, List.setIfInBounds_toArray, List.set_cons_zero, List.set_cons_succ, i64_w, i32_w]
           rfl
          refine one_ (i := 3) (N := some 19) #[true, true, true, true, true, true, false, false] rfl rfl (one_of HT_.out (by kernel_rfl)) (by decide) (fun K hK => ?_)
          refine Kd.R_lit_step Kd.string _ 9 ?hg (N := 19) ?hd (xs := ([rdOf ByteArray.empty t270 0, (⟨#[42]⟩ : ByteArray)] : List ByteArray)) (inner := [.string (rdOf ByteArray.empty t270 0), .string (⟨#[42]⟩ : ByteArray)]) (ok := fun _ => True) (okp := fun _ => True) ?hr ?hp (fun _ hk => hk) trivial (Below.refl _ _) (Nat.le_refl _) (by simp) ?_; (case hd => rfl); (case hg => rfl); (case hr => first | (go_simp; done) | (go_simp; rfl)); (case hp => exact (Reps.one (show Kd.M Kd.string _ _ _ (rdOf ByteArray.empty t270 0) [.string (rdOf ByteArray.empty t270 0)] from rfl) (Reps.one (show Kd.M Kd.string _ _ _ (⟨#[42]⟩ : ByteArray) [.string (⟨#[42]⟩ : ByteArray)] from rfl) (Reps.none _ _))))
          intro v275 w58 ho59 hb hg_ hnew_
          have HS0_ := (hb.cell (World.block_lt_of_cell? _ _ (hHeld))).trans (hHeld)
          clear hg_ hnew_
          (first | rw [← Ny274.out] at ho59 | (simp only [Int.reduceToNat] at ho59; rw [← Ny274.out] at ho59))
          have n0_ := Aside0.mk (Kd.R_elder' (by (with_reducible repeat (first | apply Kd.R_alloc | apply Kd.R_drewN | apply Kd.R_drew)); exact HO272.out) (Kd.R_base ho59) hb)
          have n1_ := Aside0.mk (Kd.R_lower (Kd.R_new' ho59 (Kd.R_lt (by (with_reducible repeat (first | apply Kd.R_alloc | apply Kd.R_drewN | apply Kd.R_drew)); exact HO272.out))) (below_size (by repeat (first | (with_reducible first | exact HB.out | apply below_alloc | apply pw_below_drewN | apply below_drew1) | exact HB.out))))
          have n2_ := Aside0.mk (Kd.C_below (by repeat (first | (with_reducible exact HR280.out) | (with_reducible refine Kd.C_alloc ?_ _) | (with_reducible refine Kd.C_drewN ?_ _) | (with_reducible refine Kd.C_drew ?_) | exact HR280.out)) hb)
          have n3_ := Aside0.mk (below_step (by repeat (first | (with_reducible first | exact HB.out | apply below_alloc | apply pw_below_drewN | apply below_drew1) | exact HB.out)) hb)
          clear HO272
          clear HR280
          clear HB
          have HO272 := n0_
          have HO276 := n1_
          have HR280 := n2_
          have HB := n3_
          clear n0_ n1_ n2_ n3_
          clear hb ho59
          refine hK.out _ _ (HS0_) (fun hHeld => ?_)
          clear hK K
          refine norm_ (a' := ?_) ?_ ?_
          rotate_left
          ·show Act.put _ (some 19) _ = _
           simp only [Act.put, List.setIfInBounds_toArray, List.set_cons_zero, List.set_cons_succ, i64_w, i32_w]
           rfl
          refine last_ (i := 6) (N := some 22) #[true, true, true, true, true, true, true, false] rfl rfl (one_of HT_.out (by kernel_rfl)) (by decide) (fun K hK => ?_)
          refine Kd.R_append_rows_step Kd.string (w0 := w) w.heap.size (by rfl) (.tmp 19) (.tmp 21) 25 9 (.string ⟨#[]⟩) 16 rfl Try.underlying25 info9 rfl (by decide) (by omega) v275 y274 y277 _ _ _ (fun k_ => some k_ ≠ (.slice (some ad273) t270.length co56 : Value).ownBlock) (fun _ => False) rfl rfl ?aO ?aR (fun _ _ h => h) (fun _ h => h.elim) ?aF ?aB ?aS ?aL ?_
          (case aR => repeat (first | exact (by repeat (first | (with_reducible exact HR280.out) | (with_reducible refine Kd.C_alloc ?_ _) | (with_reducible refine Kd.C_drewN ?_ _) | (with_reducible refine Kd.C_drew ?_) | exact HR280.out)) | (with_reducible refine Kd.C_alloc ?_ _) | (with_reducible refine Kd.C_drewN ?_ _) | (with_reducible refine Kd.C_drew ?_)))
          (case aB => exact (by repeat (first | (with_reducible first | exact HB.out | apply below_alloc | apply pw_below_drewN | apply below_drew1) | exact HB.out)))
          (case aF => exact (fun k_ hk => Kd.fresh' (Kd.R_lt (by (with_reducible repeat (first | apply Kd.R_alloc | apply Kd.R_drewN | apply Kd.R_drew)); exact HO272.out)) k_ hk))
          (case aO => exact (by (with_reducible repeat (first | apply Kd.R_alloc | apply Kd.R_drewN | apply Kd.R_drew)); exact Kd.R_mono HO276.out (fun _ hk => hk.2)))
          (case aS => exact (below_size (by repeat (first | (with_reducible first | exact HB.out | apply below_alloc | apply pw_below_drewN | apply below_drew1) | exact HB.out))))
          (case aL => have := LMc9.out; omega)
          intro v282 w60 ho hb hg hat
          rw [← Ny281.out] at ho
          have n0_ := Aside0.mk (Kd.R_after (ok := (fun _ => True)) (by (with_reducible repeat (first | apply Kd.R_alloc | apply Kd.R_drewN | apply Kd.R_drew)); exact HO272.out) hg hat)
          have n1_ := Aside0.mk (hb)
          have n2_ := Aside0.mk ((show Kd.C Kd.string w60 A57 y277.length y277 from by rw [Ny277.out, KA57.out]; exact Kd.C_drop (m := 1) (c := co56) ((Kd.R_reads' (Kd.R_after (ok := (fun _ => True)) (by (with_reducible repeat (first | apply Kd.R_alloc | apply Kd.R_drewN | apply Kd.R_drew)); exact HO272.out) hg hat)).2.2) KL57.out ((Kd.R_reads' (Kd.R_after (ok := (fun _ => True)) (by (with_reducible repeat (first | apply Kd.R_alloc | apply Kd.R_drewN | apply Kd.R_drew)); exact HO272.out) hg hat)).2.1)))
          have n3_ := Aside0.mk (ho)
          clear HO272
          clear HB
          clear HR280
          clear HO276
          have HO272 := n0_
          have HB := n1_
          have HR280 := n2_
          have HO283 := n3_
          clear n0_ n1_ n2_ n3_
          clear ho hb hg hat
          refine hK.out _ _ ?_
          clear hK K
          refine norm_ (a' := ?_) ?_ ?_
          rotate_left
          ·show Act.put _ (some 22) _ = _
           simp only [Act.put, List.setIfInBounds_toArray, List.set_cons_zero, List.set_cons_succ, i64_w, i32_w]
           rfl
          refine pure_ (i := 7) (N := some 7) (v := ?_) (a' := ?_) #[true, true, true, true, true, true, true, true] rfl rfl (any_of HT_.out (by kernel_rfl)) (fun _ _ _ h => h) (Or.inl ⟨by rfl, ?_⟩) ?_ ?_
          rotate_left
          ·intro w'
           go_simp
           with_reducible rfl
          rotate_left
          ·simp only [Act.put, List.setIfInBounds_toArray, List.set_cons_zero, List.set_cons_succ, i64_w, i32_w]
           rfl
          refine done_ (done_of HT_.out (by kernel_rfl)) ?_
          try go_wp2_with (first | ((with_reducible refine gate_callee (f := 13) rfl ?_); refine goesL_ (some 25) rfl rfl Try.func13 (by kernel_rfl) rfl #[.string t268, .string t269] rfl (by (try simp only [List.map_toArray, List.map_cons, List.map_nil]); first | done | rfl | (simp only [List.length_drop, List.length_take]; rfl)) ?_; (with_reducible refine (filter_MatchesExtended.calls k t268 t269 true _ A10.out).mono ?_); rintro e w61 ⟨rfl, hb⟩; refine ⟨_, rfl, ?_⟩; have n0_ := Aside0.mk (Kd.R_below (by (with_reducible repeat (first | apply Kd.R_alloc | apply Kd.R_drewN | apply Kd.R_drew)); exact HO272.out) hb); have n1_ := Aside0.mk (Kd.R_below (by (with_reducible repeat (first | apply Kd.R_alloc | apply Kd.R_drewN | apply Kd.R_drew)); exact HO283.out) hb); have n2_ := Aside0.mk (Kd.C_below (by repeat (first | (with_reducible exact HR280.out) | (with_reducible refine Kd.C_alloc ?_ _) | (with_reducible refine Kd.C_drewN ?_ _) | (with_reducible refine Kd.C_drew ?_) | exact HR280.out)) hb); have n3_ := Aside0.mk (below_step (by repeat (first | (with_reducible first | exact HB.out | apply below_alloc | apply pw_below_drewN | apply below_drew1) | exact HB.out)) hb); clear HO272; clear HO283; clear HR280; clear HB; have HO272 := n0_; have HO283 := n1_; have HR280 := n2_; have HB := n3_; clear n0_ n1_ n2_ n3_; (try clear hb); (try clear hb2); (try clear hk); (try clear hi)) | (go_at_call 12; (with_reducible refine (filter_Matches.calls k t268 t269 true _ A12.out).mono ?_); rintro e w62 ⟨rfl, hb⟩; have n0_ := Aside0.mk (Kd.R_below (by (with_reducible repeat (first | apply Kd.R_alloc | apply Kd.R_drewN | apply Kd.R_drew)); exact HO272.out) hb); have n1_ := Aside0.mk (Kd.R_below (by (with_reducible repeat (first | apply Kd.R_alloc | apply Kd.R_drewN | apply Kd.R_drew)); exact HO283.out) hb); have n2_ := Aside0.mk (Kd.C_below (by repeat (first | (with_reducible exact HR280.out) | (with_reducible refine Kd.C_alloc ?_ _) | (with_reducible refine Kd.C_drewN ?_ _) | (with_reducible refine Kd.C_drew ?_) | exact HR280.out)) hb); have n3_ := Aside0.mk (below_step (by repeat (first | (with_reducible first | exact HB.out | apply below_alloc | apply pw_below_drewN | apply below_drew1) | exact HB.out)) hb); clear HO272; clear HO283; clear HR280; clear HB; have HO272 := n0_; have HO283 := n1_; have HR280 := n2_; have HB := n3_; clear n0_ n1_ n2_ n3_; (try clear hb); (try clear hb2); (try clear hk); (try clear hi)) | (go_at_call 13; (with_reducible refine (filter_MatchesExtended.calls k (t268 ++ (⟨#[45, 42]⟩ : ByteArray)) t269 t286 _ A16.out).mono ?_); rintro e w63 ⟨rfl, hb⟩; have n0_ := Aside0.mk (Kd.R_below (by (with_reducible repeat (first | apply Kd.R_alloc | apply Kd.R_drewN | apply Kd.R_drew)); exact HO272.out) hb); have n1_ := Aside0.mk (Kd.R_below (by (with_reducible repeat (first | apply Kd.R_alloc | apply Kd.R_drewN | apply Kd.R_drew)); exact HO283.out) hb); have n2_ := Aside0.mk (Kd.C_below (by repeat (first | (with_reducible exact HR280.out) | (with_reducible refine Kd.C_alloc ?_ _) | (with_reducible refine Kd.C_drewN ?_ _) | (with_reducible refine Kd.C_drew ?_) | exact HR280.out)) hb); have n3_ := Aside0.mk (below_step (by repeat (first | (with_reducible first | exact HB.out | apply below_alloc | apply pw_below_drewN | apply below_drew1) | exact HB.out)) hb); clear HO272; clear HO283; clear HR280; clear HB; have HO272 := n0_; have HO283 := n1_; have HR280 := n2_; have HB := n3_; clear n0_ n1_ n2_ n3_; (try clear hb); (try clear hb2); (try clear hk); (try clear hi); obtain ⟨Ao64, co64, eo64⟩ := Kd.R_slice HO283.out; subst eo64) | (go_at_call 17; (with_reducible refine (isoglossref04_Join.calls k _ _ y281 t287 _ ?side1 ?side2 A18.out).mono ?_); (case side1 => repeat (first | exact (Kd.R_reads' HO283.out).2.2 | (with_reducible refine Kd.C_alloc ?_ _) | (with_reducible refine Kd.C_drewN ?_ _) | (with_reducible refine Kd.C_drew ?_))); (case side2 => exact (Kd.R_reads' HO283.out).2.1); rintro e w' ⟨rfl, ⟨nd, rfl⟩⟩) | (go_at_call 13; (with_reducible refine (filter_MatchesExtended.calls k t287 t269 t288 _ A19.out).mono ?_); rintro e w65 ⟨rfl, hb⟩; have n0_ := Aside0.mk (Kd.R_below (by (with_reducible repeat (first | apply Kd.R_alloc | apply Kd.R_drewN | apply Kd.R_drew)); exact HO272.out) hb); have n1_ := Aside0.mk (Kd.R_below (by (with_reducible repeat (first | apply Kd.R_alloc | apply Kd.R_drewN | apply Kd.R_drew)); exact HO283.out) hb); have n2_ := Aside0.mk (Kd.C_below (by repeat (first | (with_reducible exact HR280.out) | (with_reducible refine Kd.C_alloc ?_ _) | (with_reducible refine Kd.C_drewN ?_ _) | (with_reducible refine Kd.C_drew ?_) | exact HR280.out)) hb); have n3_ := Aside0.mk (below_step (by repeat (first | (with_reducible first | exact HB.out | apply below_alloc | apply pw_below_drewN | apply below_drew1) | exact HB.out)) hb); clear HO272; clear HO283; clear HR280; clear HB; have HO272 := n0_; have HO283 := n1_; have HR280 := n2_; have HB := n3_; clear n0_ n1_ n2_ n3_; (try clear hb); (try clear hb2); (try clear hk); (try clear hi)))
          go_ret
          exact ⟨by first | rfl | (simp [errW_none, errW_some] <;> rfl) | (simp [*, errW_none, errW_some] <;> rfl), by repeat (first | (with_reducible first | exact HB.out | apply below_alloc | apply pw_below_drewN | apply below_drew1) | exact HB.out)⟩
        ·rw [if_neg c17] at H
         have c17b0 : (t286 == true) = false := by simpa using c17
         (try (have c17b1 : decide (t286 = true) = false := by simpa using c17))
         (try (have c17b2 : (t286 == true) = false := by simpa using c17))
         (try (have c17b3 : ¬ (t286 = true) := by simpa using c17))
         clear c17
         obtain rfl := Option.some.inj H
         go_enter Try.func5, Try.ntmps5
         try go_wp2_with (first | ((with_reducible refine gate_callee (f := 9) rfl ?_); refine goesL_ (some 9) rfl rfl Try.func9 (by kernel_rfl) rfl #[] rfl (by (try simp only [List.map_toArray, List.map_cons, List.map_nil]); first | done | rfl | (simp only [List.length_drop, List.length_take]; rfl)) ?_; (with_reducible refine (isoglosslaw20_awake.calls k  true _ A3.out).mono ?_); rintro e w66 ⟨rfl, hb⟩; refine ⟨_, rfl, ?_⟩; have n0_ := Aside0.mk (below_step (by repeat (first | (with_reducible first | exact HB.out | apply below_alloc | apply pw_below_drewN | apply below_drew1) | exact HB.out)) hb); clear HB; have HB := n0_; clear n0_; (try clear hb); (try clear hb2); (try clear hk); (try clear hi)) | ((with_reducible refine gate_callee (f := 10) rfl ?_); refine goesL_ (some 11) rfl rfl Try.func10 (by kernel_rfl) rfl #[.string a0] rfl (by (try simp only [List.map_toArray, List.map_cons, List.map_nil]); first | done | rfl | (simp only [List.length_drop, List.length_take]; rfl)) ?_; (with_reducible refine (isoglosslaw20_short.calls a0 t268 _ A4.out).mono ?_); rintro e w' ⟨rfl, ⟨nd, rfl⟩⟩; refine ⟨_, rfl, ?_⟩) | ((with_reducible refine gate_callee (f := 10) rfl ?_); refine goesL_ (some 13) rfl rfl Try.func10 (by kernel_rfl) rfl #[.string a1] rfl (by (try simp only [List.map_toArray, List.map_cons, List.map_nil]); first | done | rfl | (simp only [List.length_drop, List.length_take]; rfl)) ?_; (with_reducible refine (isoglosslaw20_short.calls a1 t269 _ A5.out).mono ?_); rintro e w' ⟨rfl, ⟨nd, rfl⟩⟩; refine ⟨_, rfl, ?_⟩) | ((with_reducible refine gate_callee (f := 16) rfl ?_); refine goesL_ (some 15) rfl rfl Try.func16 (by kernel_rfl) rfl #[.string t268] rfl (by (try simp only [List.map_toArray, List.map_cons, List.map_nil]); first | done | rfl | (simp only [List.length_drop, List.length_take]; rfl)) ?_; (with_reducible refine (isoglossref04_Split.calls k t268 t270 _ A6.out).mono ?_); rintro e w67 ⟨v271, rfl, ho0, hb⟩; refine ⟨_, rfl, ?_⟩; have n0_ := Aside0.mk (Kd.R_lower ho0 (below_size (by repeat (first | (with_reducible first | exact HB.out | apply below_alloc | apply pw_below_drewN | apply below_drew1) | exact HB.out)))); have n1_ := Aside0.mk (below_step (by repeat (first | (with_reducible first | exact HB.out | apply below_alloc | apply pw_below_drewN | apply below_drew1) | exact HB.out)) hb); clear HB; have HO272 := n0_; have HB := n1_; clear n0_ n1_; (try clear hb); (try clear hb2); (try clear hk); (try clear hi); (try clear ho0)))
         have n0_ := Aside0.mk (Kd.R_drew HO272.out)
         have n1_ := Aside0.mk (below_drew1 HB.out)
         clear HO272
         clear HB
         have HO272 := n0_
         have HB := n1_
         clear n0_ n1_
         obtain ⟨Ao69, co69, eo69⟩ := Kd.R_slice HO272.out
         (first | subst eo69 | (injection eo69 with f1_ f2_ f3_; have f4_ := f1_.symm; have f5_ := f3_.symm; clear f1_ f2_ f3_; subst f4_; subst f5_))
         have p273 : 0 ≤ (0 : Int) := (by omega)
         have q273 : 0 < (t270.length : Int) := of_decide_eq_true (by first | (with_reducible assumption) | assumption)
         obtain ⟨ad273, e273, hx273_0⟩ := Kd.at_string (Kd.R_reads' HO272.out).2.2 0 p273 q273
         cases e273
         have qi273 : (0 < t270.length) = True := eq_true (by omega)
         (try rw [show ((0 : Int)).toNat = 0 from rfl] at hx273_0)
         (try rw [Addr.add_zero'] at hx273_0)
         replace p273 := eq_true p273
         replace q273 := eq_true q273
         have q70 : (1 : Int) ≤ ((t270.length : Int) : Int) := of_decide_eq_true (by first | (with_reducible assumption) | assumption)
         obtain ⟨i070, hi070, _, hsz70, _⟩ := info_parts info9
         have hroom70 : t270.length ≤ co69 := (Kd.R_reads' HO272.out).2.1
         have hC70 : Kd.C Kd.string _ (some ad273) t270.length t270 := (Kd.R_reads' HO272.out).2.2
         have hcut70 := cut_from (P := Try.prog) 25 9 .i64 Try.underlying25 hi070 1 hsz70 (some ad273) t270.length co69 1 (by omega) q70
         have hr70 := Kd.C_drop (m := (1 : Int).toNat) (c := co69) hC70 (by omega) hroom70
         obtain ⟨A70, hA70⟩ : ∃ A1, A1 = (if co69 = (1 : Int).toNat then (some ad273) else ((some ad273) : Option Addr).map (·.add ((1 : Int).toNat * 1))) := ⟨_, rfl⟩
         obtain ⟨c70, hc70⟩ : ∃ c1, c1 = co69 - (1 : Int).toNat := ⟨_, rfl⟩
         have hy70 : y277.length = t270.length - (1 : Int).toNat := (by rw [Ny277.out, List.length_drop] <;> omega)
         rw [show (t270).drop (1 : Int).toNat = y277 from Ny277.out.symm] at hr70
         replace hr70 : Kd.C Kd.string _ A70 y277.length y277 := (by rw [hA70]; exact hr70)
         rw [← hy70, ← hA70, ← hc70] at hcut70
         have HR280 := Aside0.mk hr70
         have HC280 := Aside0.mk (show y277.length ≤ c70 from by rw [hy70, hc70]; exact Nat.sub_le_sub_right hroom70 _)
         clear hr70 hC70 hroom70 hi070 hsz70 hc70
         have KY70 := Aside0.mk hy70
         have KA70 := Aside0.mk hA70
         clear hy70 hA70
         have KL70 := Aside0.mk (show 1 ≤ t270.length from by omega)
         replace q70 := eq_true q70
         refine start_ (n := 8) (S := fun w' => w'.cell? ad273 = some (.string (rdOf ByteArray.empty t270 0))) (ds := [6]) #[false, false, false, false, false, false, false, false] (by kernel_rfl) rfl rfl (hx273_0) (fun hHeld => ?_); refine with_tabW isoglosslaw20_FilterMore.tab5 isoglosslaw20_FilterMore.bits5 (fun HT_ HW_ => ?_)
         generalize w67.drew = w68 at HO272 HB HR280 hx273_0 hHeld ⊢
         refine pure_ (i := 0) (N := some 16) (v := ?_) (a' := ?_) #[true, false, false, false, false, false, false, false] rfl rfl (any_of HT_.out (by kernel_rfl)) (fun _ _ _ h => h) (Or.inl ⟨by rfl, ?_⟩) ?_ ?_
         rotate_left
         ·intro w'
          go_simp
          with_reducible rfl
         rotate_left
         ·simp only [Act.put, List.setIfInBounds_toArray, List.set_cons_zero, List.set_cons_succ, i64_w, i32_w]
          rfl
         refine pure_ (i := 1) (N := some 17) (v := ?_) (a' := ?_) #[true, true, false, false, false, false, false, false] rfl rfl (any_of HT_.out (by kernel_rfl)) (fun _ _ _ h => h) (Or.inl ⟨by rfl, ?_⟩) ?_ ?_
         rotate_left
         ·intro w'
          go_simp
          with_reducible rfl
         rotate_left
         ·simp only [Act.put, List.setIfInBounds_toArray, List.set_cons_zero, List.set_cons_succ, i64_w, i32_w]
          rfl
         refine pure_ (i := 4) (N := some 20) (v := ?_) (a' := ?_) #[true, true, false, false, true, false, false, false] rfl rfl (any_of HT_.out (by kernel_rfl)) (fun _ _ _ h => h) (Or.inl ⟨by rfl, ?_⟩) ?_ ?_
         rotate_left
         ·intro w'
          go_simp
          with_reducible rfl
         rotate_left
         ·simp only [Act.put, List.setIfInBounds_toArray, List.set_cons_zero, List.set_cons_succ, i64_w, i32_w]
          rfl
         refine pure_ (i := 5) (N := some 21) (v := ?_) (a' := ?_) #[true, true, false, false, true, true, false, false] rfl rfl (any_of HT_.out (by kernel_rfl)) (fun _ _ _ h => h) (Or.inl ⟨by rfl, ?_⟩) ?_ ?_
         rotate_left
         ·intro w'
          go_simp
          with_reducible rfl
         rotate_left
         ·simp only [Act.put, List.setIfInBounds_toArray, List.set_cons_zero, List.set_cons_succ, i64_w, i32_w]
          rfl
         refine take_ (i := 2) (N := some 18) (v := ?_) (a' := ?_) #[true, true, true, false, true, true, false, false] rfl rfl (take_ofW HT_.out HW_.out (by kernel_rfl)) (fun _ _ _ h => h) (Or.inl ⟨by rfl, ?_⟩) hHeld ?_ ?_
         rotate_left
         ·intro w' s0
          go_simp
          with_reducible rfl
         rotate_left
         ·simp only [Act.put, List.setIfInBounds_toArray, List.set_cons_zero, List.set_cons_succ, i64_w, i32_w]
          rfl
         refine one_ (i := 3) (N := some 19) #[true, true, true, true, true, true, false, false] rfl rfl (one_of HT_.out (by kernel_rfl)) (by decide) (fun K hK => ?_)
         refine Kd.R_lit_step Kd.string _ 9 ?hg (N := 19) ?hd (xs := ([rdOf ByteArray.empty t270 0, (⟨#[42]⟩ : ByteArray)] : List ByteArray)) (inner := [.string (rdOf ByteArray.empty t270 0), .string (⟨#[42]⟩ : ByteArray)]) (ok := fun _ => True) (okp := fun _ => True) ?hr ?hp (fun _ hk => hk) trivial (Below.refl _ _) (Nat.le_refl _) (by simp) ?_; (case hd => rfl); (case hg => rfl); (case hr => first | (go_simp; done) | (go_simp; rfl)); (case hp => exact (Reps.one (show Kd.M Kd.string _ _ _ (rdOf ByteArray.empty t270 0) [.string (rdOf ByteArray.empty t270 0)] from rfl) (Reps.one (show Kd.M Kd.string _ _ _ (⟨#[42]⟩ : ByteArray) [.string (⟨#[42]⟩ : ByteArray)] from rfl) (Reps.none _ _))))
         intro v275 w71 ho72 hb hg_ hnew_
         have HS0_ := (hb.cell (World.block_lt_of_cell? _ _ (hHeld))).trans (hHeld)
         clear hg_ hnew_
         (first | rw [← Ny274.out] at ho72 | (simp only [Int.reduceToNat] at ho72; rw [← Ny274.out] at ho72))
         have n0_ := Aside0.mk (Kd.R_elder' (by (with_reducible repeat (first | apply Kd.R_alloc | apply Kd.R_drewN | apply Kd.R_drew)); exact HO272.out) (Kd.R_base ho72) hb)
         have n1_ := Aside0.mk (Kd.R_lower (Kd.R_new' ho72 (Kd.R_lt (by (with_reducible repeat (first | apply Kd.R_alloc | apply Kd.R_drewN | apply Kd.R_drew)); exact HO272.out))) (below_size (by repeat (first | (with_reducible first | exact HB.out | apply below_alloc | apply pw_below_drewN | apply below_drew1) | exact HB.out))))
         have n2_ := Aside0.mk (Kd.C_below (by repeat (first | (with_reducible exact HR280.out) | (with_reducible refine Kd.C_alloc ?_ _) | (with_reducible refine Kd.C_drewN ?_ _) | (with_reducible refine Kd.C_drew ?_) | exact HR280.out)) hb)
         have n3_ := Aside0.mk (below_step (by repeat (first | (with_reducible first | exact HB.out | apply below_alloc | apply pw_below_drewN | apply below_drew1) | exact HB.out)) hb)
         clear HO272
         clear HR280
         clear HB
         have HO272 := n0_
         have HO276 := n1_
         have HR280 := n2_
         have HB := n3_
         clear n0_ n1_ n2_ n3_
         clear hb ho72
         refine hK.out _ _ (HS0_) (fun hHeld => ?_)
         clear hK K
         refine norm_ (a' := ?_) ?_ ?_
         rotate_left
         ·show Act.put _ (some 19) _ = _
          simp only [Act.put, List.setIfInBounds_toArray, List.set_cons_zero, List.set_cons_succ, i64_w, i32_w]
          rfl
         refine last_ (i := 6) (N := some 22) #[true, true, true, true, true, true, true, false] rfl rfl (one_of HT_.out (by kernel_rfl)) (by decide) (fun K hK => ?_)
         refine Kd.R_append_rows_step Kd.string (w0 := w) w.heap.size (by rfl) (.tmp 19) (.tmp 21) 25 9 (.string ⟨#[]⟩) 16 rfl Try.underlying25 info9 rfl (by decide) (by omega) v275 y274 y277 _ _ _ (fun k_ => some k_ ≠ (.slice (some ad273) t270.length co69 : Value).ownBlock) (fun _ => False) rfl rfl ?aO ?aR (fun _ _ h => h) (fun _ h => h.elim) ?aF ?aB ?aS ?aL ?_
         (case aR => repeat (first | exact (by repeat (first | (with_reducible exact HR280.out) | (with_reducible refine Kd.C_alloc ?_ _) | (with_reducible refine Kd.C_drewN ?_ _) | (with_reducible refine Kd.C_drew ?_) | exact HR280.out)) | (with_reducible refine Kd.C_alloc ?_ _) | (with_reducible refine Kd.C_drewN ?_ _) | (with_reducible refine Kd.C_drew ?_)))
         (case aB => exact (by repeat (first | (with_reducible first | exact HB.out | apply below_alloc | apply pw_below_drewN | apply below_drew1) | exact HB.out)))
         (case aF => exact (fun k_ hk => Kd.fresh' (Kd.R_lt (by (with_reducible repeat (first | apply Kd.R_alloc | apply Kd.R_drewN | apply Kd.R_drew)); exact HO272.out)) k_ hk))
         (case aO => exact (by (with_reducible repeat (first | apply Kd.R_alloc | apply Kd.R_drewN | apply Kd.R_drew)); exact Kd.R_mono HO276.out (fun _ hk => hk.2)))
         (case aS => exact (below_size (by repeat (first | (with_reducible first | exact HB.out | apply below_alloc | apply pw_below_drewN | apply below_drew1) | exact HB.out))))
         (case aL => have := LMc9.out; omega)
         intro v282 w73 ho hb hg hat
         rw [← Ny281.out] at ho
         have n0_ := Aside0.mk (Kd.R_after (ok := (fun _ => True)) (by (with_reducible repeat (first | apply Kd.R_alloc | apply Kd.R_drewN | apply Kd.R_drew)); exact HO272.out) hg hat)
         have n1_ := Aside0.mk (hb)
         have n2_ := Aside0.mk ((show Kd.C Kd.string w73 A70 y277.length y277 from by rw [Ny277.out, KA70.out]; exact Kd.C_drop (m := 1) (c := co69) ((Kd.R_reads' (Kd.R_after (ok := (fun _ => True)) (by (with_reducible repeat (first | apply Kd.R_alloc | apply Kd.R_drewN | apply Kd.R_drew)); exact HO272.out) hg hat)).2.2) KL70.out ((Kd.R_reads' (Kd.R_after (ok := (fun _ => True)) (by (with_reducible repeat (first | apply Kd.R_alloc | apply Kd.R_drewN | apply Kd.R_drew)); exact HO272.out) hg hat)).2.1)))
         have n3_ := Aside0.mk (ho)
         clear HO272
         clear HB
         clear HR280
         clear HO276
         have HO272 := n0_
         have HB := n1_
         have HR280 := n2_
         have HO283 := n3_
         clear n0_ n1_ n2_ n3_
         clear ho hb hg hat
         refine hK.out _ _ ?_
         clear hK K
         refine norm_ (a' := ?_) ?_ ?_
         rotate_left
         ·show Act.put _ (some 22) _ = _
          simp only [Act.put, List.setIfInBounds_toArray, List.set_cons_zero, List.set_cons_succ, i64_w, i32_w]
          rfl
         refine pure_ (i := 7) (N := some 7) (v := ?_) (a' := ?_) #[true, true, true, true, true, true, true, true] rfl rfl (any_of HT_.out (by kernel_rfl)) (fun _ _ _ h => h) (Or.inl ⟨by rfl, ?_⟩) ?_ ?_
         rotate_left
         ·intro w'
          go_simp
          with_reducible rfl
         rotate_left
         ·simp only [Act.put, List.setIfInBounds_toArray, List.set_cons_zero, List.set_cons_succ, i64_w, i32_w]
          rfl
         refine done_ (done_of HT_.out (by kernel_rfl)) ?_
         try go_wp2_with (first | ((with_reducible refine gate_callee (f := 13) rfl ?_); refine goesL_ (some 25) rfl rfl Try.func13 (by kernel_rfl) rfl #[.string t268, .string t269] rfl (by (try simp only [List.map_toArray, List.map_cons, List.map_nil]); first | done | rfl | (simp only [List.length_drop, List.length_take]; rfl)) ?_; (with_reducible refine (filter_MatchesExtended.calls k t268 t269 true _ A10.out).mono ?_); rintro e w74 ⟨rfl, hb⟩; refine ⟨_, rfl, ?_⟩; have n0_ := Aside0.mk (Kd.R_below (by (with_reducible repeat (first | apply Kd.R_alloc | apply Kd.R_drewN | apply Kd.R_drew)); exact HO272.out) hb); have n1_ := Aside0.mk (Kd.R_below (by (with_reducible repeat (first | apply Kd.R_alloc | apply Kd.R_drewN | apply Kd.R_drew)); exact HO283.out) hb); have n2_ := Aside0.mk (Kd.C_below (by repeat (first | (with_reducible exact HR280.out) | (with_reducible refine Kd.C_alloc ?_ _) | (with_reducible refine Kd.C_drewN ?_ _) | (with_reducible refine Kd.C_drew ?_) | exact HR280.out)) hb); have n3_ := Aside0.mk (below_step (by repeat (first | (with_reducible first | exact HB.out | apply below_alloc | apply pw_below_drewN | apply below_drew1) | exact HB.out)) hb); clear HO272; clear HO283; clear HR280; clear HB; have HO272 := n0_; have HO283 := n1_; have HR280 := n2_; have HB := n3_; clear n0_ n1_ n2_ n3_; (try clear hb); (try clear hb2); (try clear hk); (try clear hi)) | (go_at_call 12; (with_reducible refine (filter_Matches.calls k t268 t269 true _ A12.out).mono ?_); rintro e w75 ⟨rfl, hb⟩; have n0_ := Aside0.mk (Kd.R_below (by (with_reducible repeat (first | apply Kd.R_alloc | apply Kd.R_drewN | apply Kd.R_drew)); exact HO272.out) hb); have n1_ := Aside0.mk (Kd.R_below (by (with_reducible repeat (first | apply Kd.R_alloc | apply Kd.R_drewN | apply Kd.R_drew)); exact HO283.out) hb); have n2_ := Aside0.mk (Kd.C_below (by repeat (first | (with_reducible exact HR280.out) | (with_reducible refine Kd.C_alloc ?_ _) | (with_reducible refine Kd.C_drewN ?_ _) | (with_reducible refine Kd.C_drew ?_) | exact HR280.out)) hb); have n3_ := Aside0.mk (below_step (by repeat (first | (with_reducible first | exact HB.out | apply below_alloc | apply pw_below_drewN | apply below_drew1) | exact HB.out)) hb); clear HO272; clear HO283; clear HR280; clear HB; have HO272 := n0_; have HO283 := n1_; have HR280 := n2_; have HB := n3_; clear n0_ n1_ n2_ n3_; (try clear hb); (try clear hb2); (try clear hk); (try clear hi)) | (go_at_call 13; (with_reducible refine (filter_MatchesExtended.calls k (t268 ++ (⟨#[45, 42]⟩ : ByteArray)) t269 t286 _ A16.out).mono ?_); rintro e w76 ⟨rfl, hb⟩; have n0_ := Aside0.mk (Kd.R_below (by (with_reducible repeat (first | apply Kd.R_alloc | apply Kd.R_drewN | apply Kd.R_drew)); exact HO272.out) hb); have n1_ := Aside0.mk (Kd.R_below (by (with_reducible repeat (first | apply Kd.R_alloc | apply Kd.R_drewN | apply Kd.R_drew)); exact HO283.out) hb); have n2_ := Aside0.mk (Kd.C_below (by repeat (first | (with_reducible exact HR280.out) | (with_reducible refine Kd.C_alloc ?_ _) | (with_reducible refine Kd.C_drewN ?_ _) | (with_reducible refine Kd.C_drew ?_) | exact HR280.out)) hb); have n3_ := Aside0.mk (below_step (by repeat (first | (with_reducible first | exact HB.out | apply below_alloc | apply pw_below_drewN | apply below_drew1) | exact HB.out)) hb); clear HO272; clear HO283; clear HR280; clear HB; have HO272 := n0_; have HO283 := n1_; have HR280 := n2_; have HB := n3_; clear n0_ n1_ n2_ n3_; (try clear hb); (try clear hb2); (try clear hk); (try clear hi)))
         go_ret
         exact ⟨by first | rfl | (simp [errW_none, errW_some] <;> rfl) | (simp [*, errW_none, errW_some] <;> rfl), by repeat (first | (with_reducible first | exact HB.out | apply below_alloc | apply pw_below_drewN | apply below_drew1) | exact HB.out)⟩
       ·rw [if_neg c15] at H
        exact absurd H (by simp)
      ·replace c14 := Bool.eq_false_iff.mpr c14
       subst c14
       have H1 : (some false) = some r := by rw [if_neg (show ¬ (false = true) by decide)] at H; exact H
       clear H
       have H := H1
       clear H1
       obtain rfl := Option.some.inj H
       go_enter Try.func5, Try.ntmps5
       try go_wp2_with (first | ((with_reducible refine gate_callee (f := 9) rfl ?_); refine goesL_ (some 9) rfl rfl Try.func9 (by kernel_rfl) rfl #[] rfl (by (try simp only [List.map_toArray, List.map_cons, List.map_nil]); first | done | rfl | (simp only [List.length_drop, List.length_take]; rfl)) ?_; (with_reducible refine (isoglosslaw20_awake.calls k  true _ A3.out).mono ?_); rintro e w77 ⟨rfl, hb⟩; refine ⟨_, rfl, ?_⟩; have n0_ := Aside0.mk (below_step (by repeat (first | (with_reducible first | exact HB.out | apply below_alloc | apply pw_below_drewN | apply below_drew1) | exact HB.out)) hb); clear HB; have HB := n0_; clear n0_; (try clear hb); (try clear hb2); (try clear hk); (try clear hi)) | ((with_reducible refine gate_callee (f := 10) rfl ?_); refine goesL_ (some 11) rfl rfl Try.func10 (by kernel_rfl) rfl #[.string a0] rfl (by (try simp only [List.map_toArray, List.map_cons, List.map_nil]); first | done | rfl | (simp only [List.length_drop, List.length_take]; rfl)) ?_; (with_reducible refine (isoglosslaw20_short.calls a0 t268 _ A4.out).mono ?_); rintro e w' ⟨rfl, ⟨nd, rfl⟩⟩; refine ⟨_, rfl, ?_⟩) | ((with_reducible refine gate_callee (f := 10) rfl ?_); refine goesL_ (some 13) rfl rfl Try.func10 (by kernel_rfl) rfl #[.string a1] rfl (by (try simp only [List.map_toArray, List.map_cons, List.map_nil]); first | done | rfl | (simp only [List.length_drop, List.length_take]; rfl)) ?_; (with_reducible refine (isoglosslaw20_short.calls a1 t269 _ A5.out).mono ?_); rintro e w' ⟨rfl, ⟨nd, rfl⟩⟩; refine ⟨_, rfl, ?_⟩) | ((with_reducible refine gate_callee (f := 16) rfl ?_); refine goesL_ (some 15) rfl rfl Try.func16 (by kernel_rfl) rfl #[.string t268] rfl (by (try simp only [List.map_toArray, List.map_cons, List.map_nil]); first | done | rfl | (simp only [List.length_drop, List.length_take]; rfl)) ?_; (with_reducible refine (isoglossref04_Split.calls k t268 t270 _ A6.out).mono ?_); rintro e w78 ⟨v271, rfl, ho0, hb⟩; refine ⟨_, rfl, ?_⟩; have n0_ := Aside0.mk (Kd.R_lower ho0 (below_size (by repeat (first | (with_reducible first | exact HB.out | apply below_alloc | apply pw_below_drewN | apply below_drew1) | exact HB.out)))); have n1_ := Aside0.mk (below_step (by repeat (first | (with_reducible first | exact HB.out | apply below_alloc | apply pw_below_drewN | apply below_drew1) | exact HB.out)) hb); clear HB; have HO272 := n0_; have HB := n1_; clear n0_ n1_; (try clear hb); (try clear hb2); (try clear hk); (try clear hi); (try clear ho0)))
       have n0_ := Aside0.mk (Kd.R_drew HO272.out)
       have n1_ := Aside0.mk (below_drew1 HB.out)
       clear HO272
       clear HB
       have HO272 := n0_
       have HB := n1_
       clear n0_ n1_
       obtain ⟨Ao80, co80, eo80⟩ := Kd.R_slice HO272.out
       (first | subst eo80 | (injection eo80 with f1_ f2_ f3_; have f4_ := f1_.symm; have f5_ := f3_.symm; clear f1_ f2_ f3_; subst f4_; subst f5_))
       have p273 : 0 ≤ (0 : Int) := (by omega)
       have q273 : 0 < (t270.length : Int) := of_decide_eq_true (by first | (with_reducible assumption) | assumption)
       obtain ⟨ad273, e273, hx273_0⟩ := Kd.at_string (Kd.R_reads' HO272.out).2.2 0 p273 q273
       cases e273
       have qi273 : (0 < t270.length) = True := eq_true (by omega)
       (try rw [show ((0 : Int)).toNat = 0 from rfl] at hx273_0)
       (try rw [Addr.add_zero'] at hx273_0)
       replace p273 := eq_true p273
       replace q273 := eq_true q273
       have q81 : (1 : Int) ≤ ((t270.length : Int) : Int) := of_decide_eq_true (by first | (with_reducible assumption) | assumption)
       obtain ⟨i081, hi081, _, hsz81, _⟩ := info_parts info9
       have hroom81 : t270.length ≤ co80 := (Kd.R_reads' HO272.out).2.1
       have hC81 : Kd.C Kd.string _ (some ad273) t270.length t270 := (Kd.R_reads' HO272.out).2.2
       have hcut81 := cut_from (P := Try.prog) 25 9 .i64 Try.underlying25 hi081 1 hsz81 (some ad273) t270.length co80 1 (by omega) q81
       have hr81 := Kd.C_drop (m := (1 : Int).toNat) (c := co80) hC81 (by omega) hroom81
       obtain ⟨A81, hA81⟩ : ∃ A1, A1 = (if co80 = (1 : Int).toNat then (some ad273) else ((some ad273) : Option Addr).map (·.add ((1 : Int).toNat * 1))) := ⟨_, rfl⟩
       obtain ⟨c81, hc81⟩ : ∃ c1, c1 = co80 - (1 : Int).toNat := ⟨_, rfl⟩
       have hy81 : y277.length = t270.length - (1 : Int).toNat := (by rw [Ny277.out, List.length_drop] <;> omega)
       rw [show (t270).drop (1 : Int).toNat = y277 from Ny277.out.symm] at hr81
       replace hr81 : Kd.C Kd.string _ A81 y277.length y277 := (by rw [hA81]; exact hr81)
       rw [← hy81, ← hA81, ← hc81] at hcut81
       have HR280 := Aside0.mk hr81
       have HC280 := Aside0.mk (show y277.length ≤ c81 from by rw [hy81, hc81]; exact Nat.sub_le_sub_right hroom81 _)
       clear hr81 hC81 hroom81 hi081 hsz81 hc81
       have KY81 := Aside0.mk hy81
       have KA81 := Aside0.mk hA81
       clear hy81 hA81
       have KL81 := Aside0.mk (show 1 ≤ t270.length from by omega)
       replace q81 := eq_true q81
       refine start_ (n := 8) (S := fun w' => w'.cell? ad273 = some (.string (rdOf ByteArray.empty t270 0))) (ds := [6]) #[false, false, false, false, false, false, false, false] (by kernel_rfl) rfl rfl (hx273_0) (fun hHeld => ?_); refine with_tabW isoglosslaw20_FilterMore.tab5 isoglosslaw20_FilterMore.bits5 (fun HT_ HW_ => ?_)
       generalize w78.drew = w79 at HO272 HB HR280 hx273_0 hHeld ⊢
       refine pure_ (i := 0) (N := some 16) (v := ?_) (a' := ?_) #[true, false, false, false, false, false, false, false] rfl rfl (any_of HT_.out (by kernel_rfl)) (fun _ _ _ h => h) (Or.inl ⟨by rfl, ?_⟩) ?_ ?_
       rotate_left
       ·intro w'
        go_simp
        with_reducible rfl
       rotate_left
       ·simp only [Act.put, List.setIfInBounds_toArray, List.set_cons_zero, List.set_cons_succ, i64_w, i32_w]
        rfl
       refine pure_ (i := 1) (N := some 17) (v := ?_) (a' := ?_) #[true, true, false, false, false, false, false, false] rfl rfl (any_of HT_.out (by kernel_rfl)) (fun _ _ _ h => h) (Or.inl ⟨by rfl, ?_⟩) ?_ ?_
       rotate_left
       ·intro w'
        go_simp
        with_reducible rfl
       rotate_left
       ·simp only [Act.put, List.setIfInBounds_toArray, List.set_cons_zero, List.set_cons_succ, i64_w, i32_w]
        rfl
       refine pure_ (i := 4) (N := some 20) (v := ?_) (a' := ?_) #[true, true, false, false, true, false, false, false] rfl rfl (any_of HT_.out (by kernel_rfl)) (fun _ _ _ h => h) (Or.inl ⟨by rfl, ?_⟩) ?_ ?_
       rotate_left
       ·intro w'
        go_simp
        with_reducible rfl
       rotate_left
       ·simp only [Act.put, List.setIfInBounds_toArray, List.set_cons_zero, List.set_cons_succ, i64_w, i32_w]
        rfl
       refine pure_ (i := 5) (N := some 21) (v := ?_) (a' := ?_) #[true, true, false, false, true, true, false, false] rfl rfl (any_of HT_.out (by kernel_rfl)) (fun _ _ _ h => h) (Or.inl ⟨by rfl, ?_⟩) ?_ ?_
       rotate_left
       ·intro w'
        go_simp
        with_reducible rfl
       rotate_left
       ·simp only [Act.put, List.setIfInBounds_toArray, List.set_cons_zero, List.set_cons_succ, i64_w, i32_w]
        rfl
       refine take_ (i := 2) (N := some 18) (v := ?_) (a' := ?_) #[true, true, true, false, true, true, false, false] rfl rfl (take_ofW HT_.out HW_.out (by kernel_rfl)) (fun _ _ _ h => h) (Or.inl ⟨by rfl, ?_⟩) hHeld ?_ ?_
       rotate_left
       ·intro w' s0
        go_simp
        with_reducible rfl
       rotate_left
       ·simp only [Act.put, List.setIfInBounds_toArray, List.set_cons_zero, List.set_cons_succ, i64_w, i32_w]
        rfl
       refine one_ (i := 3) (N := some 19) #[true, true, true, true, true, true, false, false] rfl rfl (one_of HT_.out (by kernel_rfl)) (by decide) (fun K hK => ?_)
       refine Kd.R_lit_step Kd.string _ 9 ?hg (N := 19) ?hd (xs := ([rdOf ByteArray.empty t270 0, (⟨#[42]⟩ : ByteArray)] : List ByteArray)) (inner := [.string (rdOf ByteArray.empty t270 0), .string (⟨#[42]⟩ : ByteArray)]) (ok := fun _ => True) (okp := fun _ => True) ?hr ?hp (fun _ hk => hk) trivial (Below.refl _ _) (Nat.le_refl _) (by simp) ?_; (case hd => rfl); (case hg => rfl); (case hr => first | (go_simp; done) | (go_simp; rfl)); (case hp => exact (Reps.one (show Kd.M Kd.string _ _ _ (rdOf ByteArray.empty t270 0) [.string (rdOf ByteArray.empty t270 0)] from rfl) (Reps.one (show Kd.M Kd.string _ _ _ (⟨#[42]⟩ : ByteArray) [.string (⟨#[42]⟩ : ByteArray)] from rfl) (Reps.none _ _))))
       intro v275 w82 ho83 hb hg_ hnew_
       have HS0_ := (hb.cell (World.block_lt_of_cell? _ _ (hHeld))).trans (hHeld)
       clear hg_ hnew_
       (first | rw [← Ny274.out] at ho83 | (simp only [Int.reduceToNat] at ho83; rw [← Ny274.out] at ho83))
       have n0_ := Aside0.mk (Kd.R_elder' (by (with_reducible repeat (first | apply Kd.R_alloc | apply Kd.R_drewN | apply Kd.R_drew)); exact HO272.out) (Kd.R_base ho83) hb)
       have n1_ := Aside0.mk (Kd.R_lower (Kd.R_new' ho83 (Kd.R_lt (by (with_reducible repeat (first | apply Kd.R_alloc | apply Kd.R_drewN | apply Kd.R_drew)); exact HO272.out))) (below_size (by repeat (first | (with_reducible first | exact HB.out | apply below_alloc | apply pw_below_drewN | apply below_drew1) | exact HB.out))))
       have n2_ := Aside0.mk (Kd.C_below (by repeat (first | (with_reducible exact HR280.out) | (with_reducible refine Kd.C_alloc ?_ _) | (with_reducible refine Kd.C_drewN ?_ _) | (with_reducible refine Kd.C_drew ?_) | exact HR280.out)) hb)
       have n3_ := Aside0.mk (below_step (by repeat (first | (with_reducible first | exact HB.out | apply below_alloc | apply pw_below_drewN | apply below_drew1) | exact HB.out)) hb)
       clear HO272
       clear HR280
       clear HB
       have HO272 := n0_
       have HO276 := n1_
       have HR280 := n2_
       have HB := n3_
       clear n0_ n1_ n2_ n3_
       clear hb ho83
       refine hK.out _ _ (HS0_) (fun hHeld => ?_)
       clear hK K
       refine norm_ (a' := ?_) ?_ ?_
       rotate_left
       ·show Act.put _ (some 19) _ = _
        simp only [Act.put, List.setIfInBounds_toArray, List.set_cons_zero, List.set_cons_succ, i64_w, i32_w]
        rfl
       refine last_ (i := 6) (N := some 22) #[true, true, true, true, true, true, true, false] rfl rfl (one_of HT_.out (by kernel_rfl)) (by decide) (fun K hK => ?_)
       refine Kd.R_append_rows_step Kd.string (w0 := w) w.heap.size (by rfl) (.tmp 19) (.tmp 21) 25 9 (.string ⟨#[]⟩) 16 rfl Try.underlying25 info9 rfl (by decide) (by omega) v275 y274 y277 _ _ _ (fun k_ => some k_ ≠ (.slice (some ad273) t270.length co80 : Value).ownBlock) (fun _ => False) rfl rfl ?aO ?aR (fun _ _ h => h) (fun _ h => h.elim) ?aF ?aB ?aS ?aL ?_
       (case aR => repeat (first | exact (by repeat (first | (with_reducible exact HR280.out) | (with_reducible refine Kd.C_alloc ?_ _) | (with_reducible refine Kd.C_drewN ?_ _) | (with_reducible refine Kd.C_drew ?_) | exact HR280.out)) | (with_reducible refine Kd.C_alloc ?_ _) | (with_reducible refine Kd.C_drewN ?_ _) | (with_reducible refine Kd.C_drew ?_)))
       (case aB => exact (by repeat (first | (with_reducible first | exact HB.out | apply below_alloc | apply pw_below_drewN | apply below_drew1) | exact HB.out)))
       (case aF => exact (fun k_ hk => Kd.fresh' (Kd.R_lt (by (with_reducible repeat (first | apply Kd.R_alloc | apply Kd.R_drewN | apply Kd.R_drew)); exact HO272.out)) k_ hk))
       (case aO => exact (by (with_reducible repeat (first | apply Kd.R_alloc | apply Kd.R_drewN | apply Kd.R_drew)); exact Kd.R_mono HO276.out (fun _ hk => hk.2)))
       (case aS => exact (below_size (by repeat (first | (with_reducible first | exact HB.out | apply below_alloc | apply pw_below_drewN | apply below_drew1) | exact HB.out))))
       (case aL => have := LMc9.out; omega)
       intro v282 w84 ho hb hg hat
       rw [← Ny281.out] at ho
       have n0_ := Aside0.mk (Kd.R_after (ok := (fun _ => True)) (by (with_reducible repeat (first | apply Kd.R_alloc | apply Kd.R_drewN | apply Kd.R_drew)); exact HO272.out) hg hat)
       have n1_ := Aside0.mk (hb)
       have n2_ := Aside0.mk ((show Kd.C Kd.string w84 A81 y277.length y277 from by rw [Ny277.out, KA81.out]; exact Kd.C_drop (m := 1) (c := co80) ((Kd.R_reads' (Kd.R_after (ok := (fun _ => True)) (by (with_reducible repeat (first | apply Kd.R_alloc | apply Kd.R_drewN | apply Kd.R_drew)); exact HO272.out) hg hat)).2.2) KL81.out ((Kd.R_reads' (Kd.R_after (ok := (fun _ => True)) (by (with_reducible repeat (first | apply Kd.R_alloc | apply Kd.R_drewN | apply Kd.R_drew)); exact HO272.out) hg hat)).2.1)))
       have n3_ := Aside0.mk (ho)
       clear HO272
       clear HB
       clear HR280
       clear HO276
       have HO272 := n0_
       have HB := n1_
       have HR280 := n2_
       have HO283 := n3_
       clear n0_ n1_ n2_ n3_
       clear ho hb hg hat
       refine hK.out _ _ ?_
       clear hK K
       refine norm_ (a' := ?_) ?_ ?_
       rotate_left
       ·show Act.put _ (some 22) _ = _
        simp only [Act.put, List.setIfInBounds_toArray, List.set_cons_zero, List.set_cons_succ, i64_w, i32_w]
        rfl
       refine pure_ (i := 7) (N := some 7) (v := ?_) (a' := ?_) #[true, true, true, true, true, true, true, true] rfl rfl (any_of HT_.out (by kernel_rfl)) (fun _ _ _ h => h) (Or.inl ⟨by rfl, ?_⟩) ?_ ?_
       rotate_left
       ·intro w'
        go_simp
        with_reducible rfl
       rotate_left
       ·simp only [Act.put, List.setIfInBounds_toArray, List.set_cons_zero, List.set_cons_succ, i64_w, i32_w]
        rfl
       refine done_ (done_of HT_.out (by kernel_rfl)) ?_
       try go_wp2_with (first | ((with_reducible refine gate_callee (f := 13) rfl ?_); refine goesL_ (some 25) rfl rfl Try.func13 (by kernel_rfl) rfl #[.string t268, .string t269] rfl (by (try simp only [List.map_toArray, List.map_cons, List.map_nil]); first | done | rfl | (simp only [List.length_drop, List.length_take]; rfl)) ?_; (with_reducible refine (filter_MatchesExtended.calls k t268 t269 false _ A10.out).mono ?_); rintro e w85 ⟨rfl, hb⟩; refine ⟨_, rfl, ?_⟩; have n0_ := Aside0.mk (Kd.R_below (by (with_reducible repeat (first | apply Kd.R_alloc | apply Kd.R_drewN | apply Kd.R_drew)); exact HO272.out) hb); have n1_ := Aside0.mk (Kd.R_below (by (with_reducible repeat (first | apply Kd.R_alloc | apply Kd.R_drewN | apply Kd.R_drew)); exact HO283.out) hb); have n2_ := Aside0.mk (Kd.C_below (by repeat (first | (with_reducible exact HR280.out) | (with_reducible refine Kd.C_alloc ?_ _) | (with_reducible refine Kd.C_drewN ?_ _) | (with_reducible refine Kd.C_drew ?_) | exact HR280.out)) hb); have n3_ := Aside0.mk (below_step (by repeat (first | (with_reducible first | exact HB.out | apply below_alloc | apply pw_below_drewN | apply below_drew1) | exact HB.out)) hb); clear HO272; clear HO283; clear HR280; clear HB; have HO272 := n0_; have HO283 := n1_; have HR280 := n2_; have HB := n3_; clear n0_ n1_ n2_ n3_; (try clear hb); (try clear hb2); (try clear hk); (try clear hi)) | (go_at_call 12; (with_reducible refine (filter_Matches.calls k t268 t269 true _ A12.out).mono ?_); rintro e w86 ⟨rfl, hb⟩; have n0_ := Aside0.mk (Kd.R_below (by (with_reducible repeat (first | apply Kd.R_alloc | apply Kd.R_drewN | apply Kd.R_drew)); exact HO272.out) hb); have n1_ := Aside0.mk (Kd.R_below (by (with_reducible repeat (first | apply Kd.R_alloc | apply Kd.R_drewN | apply Kd.R_drew)); exact HO283.out) hb); have n2_ := Aside0.mk (Kd.C_below (by repeat (first | (with_reducible exact HR280.out) | (with_reducible refine Kd.C_alloc ?_ _) | (with_reducible refine Kd.C_drewN ?_ _) | (with_reducible refine Kd.C_drew ?_) | exact HR280.out)) hb); have n3_ := Aside0.mk (below_step (by repeat (first | (with_reducible first | exact HB.out | apply below_alloc | apply pw_below_drewN | apply below_drew1) | exact HB.out)) hb); clear HO272; clear HO283; clear HR280; clear HB; have HO272 := n0_; have HO283 := n1_; have HR280 := n2_; have HB := n3_; clear n0_ n1_ n2_ n3_; (try clear hb); (try clear hb2); (try clear hk); (try clear hi)))
       go_ret
       exact ⟨by first | rfl | (simp [errW_none, errW_some] <;> rfl) | (simp [*, errW_none, errW_some] <;> rfl), by repeat (first | (with_reducible first | exact HB.out | apply below_alloc | apply pw_below_drewN | apply below_drew1) | exact HB.out)⟩
     ·replace c13 := Bool.eq_false_iff.mpr c13
      subst c13
      have H1 : (if t268.size + 2 ≤ 9223372036854775807 then ((filter_MatchesExtended.f k (t268 ++ (⟨#[45, 42]⟩ : ByteArray)) t269).bind fun t291 => (if (t291 == t284) = true then ((isoglossref04_Join.f k y281).bind fun t292 => ((filter_MatchesExtended.f k t292 t269).bind fun t293 => (if (t293 == t284) = true then ((filter_Basic.f k t268).bind fun t294 => (if t294 = true then ((filter_Extended.f k t268).bind fun t295 => (some t295)) else (some true))) else (some false)))) else (some false))) else (none)) = some r := by rw [if_neg (show ¬ (false = true) by decide)] at H; exact H
      clear H
      have H := H1
      clear H1
      by_cases c87 : t268.size + 2 ≤ 9223372036854775807
      ·rw [if_pos c87] at H
       have c87b0 := eq_true c87
       have c87b1 : decide (t268.size + 2 ≤ 9223372036854775807) = true := decide_eq_true c87
       try have c87b2 : (9223372036854775807 < t268.size + 2) = False := eq_false (Nat.not_lt.2 c87)
       replace H := Option.bind_eq_some_iff.mp H
       obtain ⟨t291, A880, H⟩ := H
       replace H : (if (t291 == t284) = true then ((isoglossref04_Join.f k y281).bind fun t292 => ((filter_MatchesExtended.f k t292 t269).bind fun t293 => (if (t293 == t284) = true then ((filter_Basic.f k t268).bind fun t294 => (if t294 = true then ((filter_Extended.f k t268).bind fun t295 => (some t295)) else (some true))) else (some false)))) else (some false)) = some r := H
       have A88 := Aside0.mk A880
       clear A880
       by_cases c89 : (t291 == t284) = true
       ·rw [if_pos c89] at H
        have c89b0 : (t291 == t284) = true := c89
        (try (have c89b1 : decide (t291 = t284) = true := by simpa using c89))
        (try (have c89b2 : (t291 == t284) = true := by simpa using c89))
        clear c89
        replace H := Option.bind_eq_some_iff.mp H
        obtain ⟨t292, A900, H⟩ := H
        replace H : ((filter_MatchesExtended.f k t292 t269).bind fun t293 => (if (t293 == t284) = true then ((filter_Basic.f k t268).bind fun t294 => (if t294 = true then ((filter_Extended.f k t268).bind fun t295 => (some t295)) else (some true))) else (some false))) = some r := H
        have A90 := Aside0.mk A900
        clear A900
        replace H := Option.bind_eq_some_iff.mp H
        obtain ⟨t293, A910, H⟩ := H
        replace H : (if (t293 == t284) = true then ((filter_Basic.f k t268).bind fun t294 => (if t294 = true then ((filter_Extended.f k t268).bind fun t295 => (some t295)) else (some true))) else (some false)) = some r := H
        have A91 := Aside0.mk A910
        clear A910
        by_cases c92 : (t293 == t284) = true
        ·rw [if_pos c92] at H
         have c92b0 : (t293 == t284) = true := c92
         (try (have c92b1 : decide (t293 = t284) = true := by simpa using c92))
         (try (have c92b2 : (t293 == t284) = true := by simpa using c92))
         clear c92
         replace H := Option.bind_eq_some_iff.mp H
         obtain ⟨t294, A930, H⟩ := H
         replace H : (if t294 = true then ((filter_Extended.f k t268).bind fun t295 => (some t295)) else (some true)) = some r := H
         have A93 := Aside0.mk A930
         clear A930
         by_cases c94 : t294 = true
         ·subst c94
          have H1 : ((filter_Extended.f k t268).bind fun t295 => (some t295)) = some r := by rw [if_pos rfl] at H; exact H
          clear H
          have H := H1
          clear H1
          replace H := Option.bind_eq_some_iff.mp H
          obtain ⟨t295, A950, H⟩ := H
          replace H : (some t295) = some r := H
          have A95 := Aside0.mk A950
          clear A950
          obtain rfl := Option.some.inj H
          go_enter Try.func5, Try.ntmps5
          try go_wp2_with (first | ((with_reducible refine gate_callee (f := 9) rfl ?_); refine goesL_ (some 9) rfl rfl Try.func9 (by kernel_rfl) rfl #[] rfl (by (try simp only [List.map_toArray, List.map_cons, List.map_nil]); first | done | rfl | (simp only [List.length_drop, List.length_take]; rfl)) ?_; (with_reducible refine (isoglosslaw20_awake.calls k  true _ A3.out).mono ?_); rintro e w96 ⟨rfl, hb⟩; refine ⟨_, rfl, ?_⟩; have n0_ := Aside0.mk (below_step (by repeat (first | (with_reducible first | exact HB.out | apply below_alloc | apply pw_below_drewN | apply below_drew1) | exact HB.out)) hb); clear HB; have HB := n0_; clear n0_; (try clear hb); (try clear hb2); (try clear hk); (try clear hi)) | ((with_reducible refine gate_callee (f := 10) rfl ?_); refine goesL_ (some 11) rfl rfl Try.func10 (by kernel_rfl) rfl #[.string a0] rfl (by (try simp only [List.map_toArray, List.map_cons, List.map_nil]); first | done | rfl | (simp only [List.length_drop, List.length_take]; rfl)) ?_; (with_reducible refine (isoglosslaw20_short.calls a0 t268 _ A4.out).mono ?_); rintro e w' ⟨rfl, ⟨nd, rfl⟩⟩; refine ⟨_, rfl, ?_⟩) | ((with_reducible refine gate_callee (f := 10) rfl ?_); refine goesL_ (some 13) rfl rfl Try.func10 (by kernel_rfl) rfl #[.string a1] rfl (by (try simp only [List.map_toArray, List.map_cons, List.map_nil]); first | done | rfl | (simp only [List.length_drop, List.length_take]; rfl)) ?_; (with_reducible refine (isoglosslaw20_short.calls a1 t269 _ A5.out).mono ?_); rintro e w' ⟨rfl, ⟨nd, rfl⟩⟩; refine ⟨_, rfl, ?_⟩) | ((with_reducible refine gate_callee (f := 16) rfl ?_); refine goesL_ (some 15) rfl rfl Try.func16 (by kernel_rfl) rfl #[.string t268] rfl (by (try simp only [List.map_toArray, List.map_cons, List.map_nil]); first | done | rfl | (simp only [List.length_drop, List.length_take]; rfl)) ?_; (with_reducible refine (isoglossref04_Split.calls k t268 t270 _ A6.out).mono ?_); rintro e w97 ⟨v271, rfl, ho0, hb⟩; refine ⟨_, rfl, ?_⟩; have n0_ := Aside0.mk (Kd.R_lower ho0 (below_size (by repeat (first | (with_reducible first | exact HB.out | apply below_alloc | apply pw_below_drewN | apply below_drew1) | exact HB.out)))); have n1_ := Aside0.mk (below_step (by repeat (first | (with_reducible first | exact HB.out | apply below_alloc | apply pw_below_drewN | apply below_drew1) | exact HB.out)) hb); clear HB; have HO272 := n0_; have HB := n1_; clear n0_ n1_; (try clear hb); (try clear hb2); (try clear hk); (try clear hi); (try clear ho0)))
          have n0_ := Aside0.mk (Kd.R_drew HO272.out)
          have n1_ := Aside0.mk (below_drew1 HB.out)
          clear HO272
          clear HB
          have HO272 := n0_
          have HB := n1_
          clear n0_ n1_
          obtain ⟨Ao99, co99, eo99⟩ := Kd.R_slice HO272.out
          (first | subst eo99 | (injection eo99 with f1_ f2_ f3_; have f4_ := f1_.symm; have f5_ := f3_.symm; clear f1_ f2_ f3_; subst f4_; subst f5_))
          have p273 : 0 ≤ (0 : Int) := (by omega)
          have q273 : 0 < (t270.length : Int) := of_decide_eq_true (by first | (with_reducible assumption) | assumption)
          obtain ⟨ad273, e273, hx273_0⟩ := Kd.at_string (Kd.R_reads' HO272.out).2.2 0 p273 q273
          cases e273
          have qi273 : (0 < t270.length) = True := eq_true (by omega)
          (try rw [show ((0 : Int)).toNat = 0 from rfl] at hx273_0)
          (try rw [Addr.add_zero'] at hx273_0)
          replace p273 := eq_true p273
          replace q273 := eq_true q273
          have q100 : (1 : Int) ≤ ((t270.length : Int) : Int) := of_decide_eq_true (by first | (with_reducible assumption) | assumption)
          obtain ⟨i0100, hi0100, _, hsz100, _⟩ := info_parts info9
          have hroom100 : t270.length ≤ co99 := (Kd.R_reads' HO272.out).2.1
          have hC100 : Kd.C Kd.string _ (some ad273) t270.length t270 := (Kd.R_reads' HO272.out).2.2
          have hcut100 := cut_from (P := Try.prog) 25 9 .i64 Try.underlying25 hi0100 1 hsz100 (some ad273) t270.length co99 1 (by omega) q100
          have hr100 := Kd.C_drop (m := (1 : Int).toNat) (c := co99) hC100 (by omega) hroom100
          obtain ⟨A100, hA100⟩ : ∃ A1, A1 = (if co99 = (1 : Int).toNat then (some ad273) else ((some ad273) : Option Addr).map (·.add ((1 : Int).toNat * 1))) := ⟨_, rfl⟩
          obtain ⟨c100, hc100⟩ : ∃ c1, c1 = co99 - (1 : Int).toNat := ⟨_, rfl⟩
          have hy100 : y277.length = t270.length - (1 : Int).toNat := (by rw [Ny277.out, List.length_drop] <;> omega)
          rw [show (t270).drop (1 : Int).toNat = y277 from Ny277.out.symm] at hr100
          replace hr100 : Kd.C Kd.string _ A100 y277.length y277 := (by rw [hA100]; exact hr100)
          rw [← hy100, ← hA100, ← hc100] at hcut100
          have HR280 := Aside0.mk hr100
          have HC280 := Aside0.mk (show y277.length ≤ c100 from by rw [hy100, hc100]; exact Nat.sub_le_sub_right hroom100 _)
          clear hr100 hC100 hroom100 hi0100 hsz100 hc100
          have KY100 := Aside0.mk hy100
          have KA100 := Aside0.mk hA100
          clear hy100 hA100
          have KL100 := Aside0.mk (show 1 ≤ t270.length from by omega)
          replace q100 := eq_true q100
          refine start_ (n := 8) (S := fun w' => w'.cell? ad273 = some (.string (rdOf ByteArray.empty t270 0))) (ds := [6]) #[false, false, false, false, false, false, false, false] (by kernel_rfl) rfl rfl (hx273_0) (fun hHeld => ?_); refine with_tabW isoglosslaw20_FilterMore.tab5 isoglosslaw20_FilterMore.bits5 (fun HT_ HW_ => ?_)
          generalize w97.drew = w98 at HO272 HB HR280 hx273_0 hHeld ⊢
          refine pure_ (i := 0) (N := some 16) (v := ?_) (a' := ?_) #[true, false, false, false, false, false, false, false] rfl rfl (any_of HT_.out (by kernel_rfl)) (fun _ _ _ h => h) (Or.inl ⟨by rfl, ?_⟩) ?_ ?_
          rotate_left
          ·intro w'
           go_simp
           with_reducible rfl
          rotate_left
          ·simp only [Act.put, List.setIfInBounds_toArray, List.set_cons_zero, List.set_cons_succ, i64_w, i32_w]
           rfl
          refine pure_ (i := 1) (N := some 17) (v := ?_) (a' := ?_) #[true, true, false, false, false, false, false, false] rfl rfl (any_of HT_.out (by kernel_rfl)) (fun _ _ _ h => h) (Or.inl ⟨by rfl, ?_⟩) ?_ ?_
          rotate_left
          ·intro w'
           go_simp
           with_reducible rfl
          rotate_left
          ·simp only [Act.put, List.setIfInBounds_toArray, List.set_cons_zero, List.set_cons_succ, i64_w, i32_w]
           rfl
          refine pure_ (i := 4) (N := some 20) (v := ?_) (a' := ?_) #[true, true, false, false, true, false, false, false] rfl rfl (any_of HT_.out (by kernel_rfl)) (fun _ _ _ h => h) (Or.inl ⟨by rfl, ?_⟩) ?_ ?_
          rotate_left
          ·intro w'
           go_simp
           with_reducible rfl
          rotate_left
          ·simp only [Act.put, List.setIfInBounds_toArray, List.set_cons_zero, List.set_cons_succ, i64_w, i32_w]
           rfl
          refine pure_ (i := 5) (N := some 21) (v := ?_) (a' := ?_) #[true, true, false, false, true, true, false, false] rfl rfl (any_of HT_.out (by kernel_rfl)) (fun _ _ _ h => h) (Or.inl ⟨by rfl, ?_⟩) ?_ ?_
          rotate_left
          ·intro w'
           go_simp
           with_reducible rfl
          rotate_left
          ·simp only [Act.put, List.setIfInBounds_toArray, List.set_cons_zero, List.set_cons_succ, i64_w, i32_w]
           rfl
          refine take_ (i := 2) (N := some 18) (v := ?_) (a' := ?_) #[true, true, true, false, true, true, false, false] rfl rfl (take_ofW HT_.out HW_.out (by kernel_rfl)) (fun _ _ _ h => h) (Or.inl ⟨by rfl, ?_⟩) hHeld ?_ ?_
          rotate_left
          ·intro w' s0
           go_simp
           with_reducible rfl
          rotate_left
          ·simp only [Act.put, List.setIfInBounds_toArray, List.set_cons_zero, List.set_cons_succ, i64_w, i32_w]
           rfl
          refine one_ (i := 3) (N := some 19) #[true, true, true, true, true, true, false, false] rfl rfl (one_of HT_.out (by kernel_rfl)) (by decide) (fun K hK => ?_)
          refine Kd.R_lit_step Kd.string _ 9 ?hg (N := 19) ?hd (xs := ([rdOf ByteArray.empty t270 0, (⟨#[42]⟩ : ByteArray)] : List ByteArray)) (inner := [.string (rdOf ByteArray.empty t270 0), .string (⟨#[42]⟩ : ByteArray)]) (ok := fun _ => True) (okp := fun _ => True) ?hr ?hp (fun _ hk => hk) trivial (Below.refl _ _) (Nat.le_refl _) (by simp) ?_; (case hd => rfl); (case hg => rfl); (case hr => first | (go_simp; done) | (go_simp; rfl)); (case hp => exact (Reps.one (show Kd.M Kd.string _ _ _ (rdOf ByteArray.empty t270 0) [.string (rdOf ByteArray.empty t270 0)] from rfl) (Reps.one (show Kd.M Kd.string _ _ _ (⟨#[42]⟩ : ByteArray) [.string (⟨#[42]⟩ : ByteArray)] from rfl) (Reps.none _ _))))
          intro v275 w101 ho102 hb hg_ hnew_
          have HS0_ := (hb.cell (World.block_lt_of_cell? _ _ (hHeld))).trans (hHeld)
          clear hg_ hnew_
          (first | rw [← Ny274.out] at ho102 | (simp only [Int.reduceToNat] at ho102; rw [← Ny274.out] at ho102))
          have n0_ := Aside0.mk (Kd.R_elder' (by (with_reducible repeat (first | apply Kd.R_alloc | apply Kd.R_drewN | apply Kd.R_drew)); exact HO272.out) (Kd.R_base ho102) hb)
          have n1_ := Aside0.mk (Kd.R_lower (Kd.R_new' ho102 (Kd.R_lt (by (with_reducible repeat (first | apply Kd.R_alloc | apply Kd.R_drewN | apply Kd.R_drew)); exact HO272.out))) (below_size (by repeat (first | (with_reducible first | exact HB.out | apply below_alloc | apply pw_below_drewN | apply below_drew1) | exact HB.out))))
          have n2_ := Aside0.mk (Kd.C_below (by repeat (first | (with_reducible exact HR280.out) | (with_reducible refine Kd.C_alloc ?_ _) | (with_reducible refine Kd.C_drewN ?_ _) | (with_reducible refine Kd.C_drew ?_) | exact HR280.out)) hb)
          have n3_ := Aside0.mk (below_step (by repeat (first | (with_reducible first | exact HB.out | apply below_alloc | apply pw_below_drewN | apply below_drew1) | exact HB.out)) hb)
          clear HO272
          clear HR280
          clear HB
          have HO272 := n0_
          have HO276 := n1_
          have HR280 := n2_
          have HB := n3_
          clear n0_ n1_ n2_ n3_
          clear hb ho102
          refine hK.out _ _ (HS0_) (fun hHeld => ?_)
          clear hK K
          refine norm_ (a' := ?_) ?_ ?_
          rotate_left
          ·show Act.put _ (some 19) _ = _
           simp only [Act.put, List.setIfInBounds_toArray, List.set_cons_zero, List.set_cons_succ, i64_w, i32_w]
           rfl
          refine last_ (i := 6) (N := some 22) #[true, true, true, true, true, true, true, false] rfl rfl (one_of HT_.out (by kernel_rfl)) (by decide) (fun K hK => ?_)
          refine Kd.R_append_rows_step Kd.string (w0 := w) w.heap.size (by rfl) (.tmp 19) (.tmp 21) 25 9 (.string ⟨#[]⟩) 16 rfl Try.underlying25 info9 rfl (by decide) (by omega) v275 y274 y277 _ _ _ (fun k_ => some k_ ≠ (.slice (some ad273) t270.length co99 : Value).ownBlock) (fun _ => False) rfl rfl ?aO ?aR (fun _ _ h => h) (fun _ h => h.elim) ?aF ?aB ?aS ?aL ?_
          (case aR => repeat (first | exact (by repeat (first | (with_reducible exact HR280.out) | (with_reducible refine Kd.C_alloc ?_ _) | (with_reducible refine Kd.C_drewN ?_ _) | (with_reducible refine Kd.C_drew ?_) | exact HR280.out)) | (with_reducible refine Kd.C_alloc ?_ _) | (with_reducible refine Kd.C_drewN ?_ _) | (with_reducible refine Kd.C_drew ?_)))
          (case aB => exact (by repeat (first | (with_reducible first | exact HB.out | apply below_alloc | apply pw_below_drewN | apply below_drew1) | exact HB.out)))
          (case aF => exact (fun k_ hk => Kd.fresh' (Kd.R_lt (by (with_reducible repeat (first | apply Kd.R_alloc | apply Kd.R_drewN | apply Kd.R_drew)); exact HO272.out)) k_ hk))
          (case aO => exact (by (with_reducible repeat (first | apply Kd.R_alloc | apply Kd.R_drewN | apply Kd.R_drew)); exact Kd.R_mono HO276.out (fun _ hk => hk.2)))
          (case aS => exact (below_size (by repeat (first | (with_reducible first | exact HB.out | apply below_alloc | apply pw_below_drewN | apply below_drew1) | exact HB.out))))
          (case aL => have := LMc9.out; omega)
          intro v282 w103 ho hb hg hat
          rw [← Ny281.out] at ho
          have n0_ := Aside0.mk (Kd.R_after (ok := (fun _ => True)) (by (with_reducible repeat (first | apply Kd.R_alloc | apply Kd.R_drewN | apply Kd.R_drew)); exact HO272.out) hg hat)
          have n1_ := Aside0.mk (hb)
          have n2_ := Aside0.mk ((show Kd.C Kd.string w103 A100 y277.length y277 from by rw [Ny277.out, KA100.out]; exact Kd.C_drop (m := 1) (c := co99) ((Kd.R_reads' (Kd.R_after (ok := (fun _ => True)) (by (with_reducible repeat (first | apply Kd.R_alloc | apply Kd.R_drewN | apply Kd.R_drew)); exact HO272.out) hg hat)).2.2) KL100.out ((Kd.R_reads' (Kd.R_after (ok := (fun _ => True)) (by (with_reducible repeat (first | apply Kd.R_alloc | apply Kd.R_drewN | apply Kd.R_drew)); exact HO272.out) hg hat)).2.1)))
          have n3_ := Aside0.mk (ho)
          clear HO272
          clear HB
          clear HR280
          clear HO276
          have HO272 := n0_
          have HB := n1_
          have HR280 := n2_
          have HO283 := n3_
          clear n0_ n1_ n2_ n3_
          clear ho hb hg hat
          refine hK.out _ _ ?_
          clear hK K
          refine norm_ (a' := ?_) ?_ ?_
          rotate_left
          ·show Act.put _ (some 22) _ = _
           simp only [Act.put, List.setIfInBounds_toArray, List.set_cons_zero, List.set_cons_succ, i64_w, i32_w]
           rfl
          refine pure_ (i := 7) (N := some 7) (v := ?_) (a' := ?_) #[true, true, true, true, true, true, true, true] rfl rfl (any_of HT_.out (by kernel_rfl)) (fun _ _ _ h => h) (Or.inl ⟨by rfl, ?_⟩) ?_ ?_
          rotate_left
          ·intro w'
           go_simp
           with_reducible rfl
          rotate_left
          ·simp only [Act.put, List.setIfInBounds_toArray, List.set_cons_zero, List.set_cons_succ, i64_w, i32_w]
           rfl
          refine done_ (done_of HT_.out (by kernel_rfl)) ?_
          try go_wp2_with (first | ((with_reducible refine gate_callee (f := 13) rfl ?_); refine goesL_ (some 25) rfl rfl Try.func13 (by kernel_rfl) rfl #[.string t268, .string t269] rfl (by (try simp only [List.map_toArray, List.map_cons, List.map_nil]); first | done | rfl | (simp only [List.length_drop, List.length_take]; rfl)) ?_; (with_reducible refine (filter_MatchesExtended.calls k t268 t269 t284 _ A10.out).mono ?_); rintro e w104 ⟨rfl, hb⟩; refine ⟨_, rfl, ?_⟩; have n0_ := Aside0.mk (Kd.R_below (by (with_reducible repeat (first | apply Kd.R_alloc | apply Kd.R_drewN | apply Kd.R_drew)); exact HO272.out) hb); have n1_ := Aside0.mk (Kd.R_below (by (with_reducible repeat (first | apply Kd.R_alloc | apply Kd.R_drewN | apply Kd.R_drew)); exact HO283.out) hb); have n2_ := Aside0.mk (Kd.C_below (by repeat (first | (with_reducible exact HR280.out) | (with_reducible refine Kd.C_alloc ?_ _) | (with_reducible refine Kd.C_drewN ?_ _) | (with_reducible refine Kd.C_drew ?_) | exact HR280.out)) hb); have n3_ := Aside0.mk (below_step (by repeat (first | (with_reducible first | exact HB.out | apply below_alloc | apply pw_below_drewN | apply below_drew1) | exact HB.out)) hb); clear HO272; clear HO283; clear HR280; clear HB; have HO272 := n0_; have HO283 := n1_; have HR280 := n2_; have HB := n3_; clear n0_ n1_ n2_ n3_; (try clear hb); (try clear hb2); (try clear hk); (try clear hi)) | (go_at_call 12; (with_reducible refine (filter_Matches.calls k t268 t269 false _ A12.out).mono ?_); rintro e w105 ⟨rfl, hb⟩; have n0_ := Aside0.mk (Kd.R_below (by (with_reducible repeat (first | apply Kd.R_alloc | apply Kd.R_drewN | apply Kd.R_drew)); exact HO272.out) hb); have n1_ := Aside0.mk (Kd.R_below (by (with_reducible repeat (first | apply Kd.R_alloc | apply Kd.R_drewN | apply Kd.R_drew)); exact HO283.out) hb); have n2_ := Aside0.mk (Kd.C_below (by repeat (first | (with_reducible exact HR280.out) | (with_reducible refine Kd.C_alloc ?_ _) | (with_reducible refine Kd.C_drewN ?_ _) | (with_reducible refine Kd.C_drew ?_) | exact HR280.out)) hb); have n3_ := Aside0.mk (below_step (by repeat (first | (with_reducible first | exact HB.out | apply below_alloc | apply pw_below_drewN | apply below_drew1) | exact HB.out)) hb); clear HO272; clear HO283; clear HR280; clear HB; have HO272 := n0_; have HO283 := n1_; have HR280 := n2_; have HB := n3_; clear n0_ n1_ n2_ n3_; (try clear hb); (try clear hb2); (try clear hk); (try clear hi)) | (go_at_call 13; (with_reducible refine (filter_MatchesExtended.calls k (t268 ++ (⟨#[45, 42]⟩ : ByteArray)) t269 t291 _ A88.out).mono ?_); rintro e w106 ⟨rfl, hb⟩; have n0_ := Aside0.mk (Kd.R_below (by (with_reducible repeat (first | apply Kd.R_alloc | apply Kd.R_drewN | apply Kd.R_drew)); exact HO272.out) hb); have n1_ := Aside0.mk (Kd.R_below (by (with_reducible repeat (first | apply Kd.R_alloc | apply Kd.R_drewN | apply Kd.R_drew)); exact HO283.out) hb); have n2_ := Aside0.mk (Kd.C_below (by repeat (first | (with_reducible exact HR280.out) | (with_reducible refine Kd.C_alloc ?_ _) | (with_reducible refine Kd.C_drewN ?_ _) | (with_reducible refine Kd.C_drew ?_) | exact HR280.out)) hb); have n3_ := Aside0.mk (below_step (by repeat (first | (with_reducible first | exact HB.out | apply below_alloc | apply pw_below_drewN | apply below_drew1) | exact HB.out)) hb); clear HO272; clear HO283; clear HR280; clear HB; have HO272 := n0_; have HO283 := n1_; have HR280 := n2_; have HB := n3_; clear n0_ n1_ n2_ n3_; (try clear hb); (try clear hb2); (try clear hk); (try clear hi); obtain ⟨Ao107, co107, eo107⟩ := Kd.R_slice HO283.out; subst eo107) | (go_at_call 17; (with_reducible refine (isoglossref04_Join.calls k _ _ y281 t292 _ ?side1 ?side2 A90.out).mono ?_); (case side1 => repeat (first | exact (Kd.R_reads' HO283.out).2.2 | (with_reducible refine Kd.C_alloc ?_ _) | (with_reducible refine Kd.C_drewN ?_ _) | (with_reducible refine Kd.C_drew ?_))); (case side2 => exact (Kd.R_reads' HO283.out).2.1); rintro e w' ⟨rfl, ⟨nd, rfl⟩⟩) | (go_at_call 13; (with_reducible refine (filter_MatchesExtended.calls k t292 t269 t293 _ A91.out).mono ?_); rintro e w108 ⟨rfl, hb⟩; have n0_ := Aside0.mk (Kd.R_below (by (with_reducible repeat (first | apply Kd.R_alloc | apply Kd.R_drewN | apply Kd.R_drew)); exact HO272.out) hb); have n1_ := Aside0.mk (Kd.R_below (by (with_reducible repeat (first | apply Kd.R_alloc | apply Kd.R_drewN | apply Kd.R_drew)); exact HO283.out) hb); have n2_ := Aside0.mk (Kd.C_below (by repeat (first | (with_reducible exact HR280.out) | (with_reducible refine Kd.C_alloc ?_ _) | (with_reducible refine Kd.C_drewN ?_ _) | (with_reducible refine Kd.C_drew ?_) | exact HR280.out)) hb); have n3_ := Aside0.mk (below_step (by repeat (first | (with_reducible first | exact HB.out | apply below_alloc | apply pw_below_drewN | apply below_drew1) | exact HB.out)) hb); clear HO272; clear HO283; clear HR280; clear HB; have HO272 := n0_; have HO283 := n1_; have HR280 := n2_; have HB := n3_; clear n0_ n1_ n2_ n3_; (try clear hb); (try clear hb2); (try clear hk); (try clear hi)) | (go_at_call 18; (with_reducible refine (filter_Basic.calls k t268 true _ A93.out).mono ?_); rintro e w109 ⟨rfl, hb⟩; have n0_ := Aside0.mk (Kd.R_below (by (with_reducible repeat (first | apply Kd.R_alloc | apply Kd.R_drewN | apply Kd.R_drew)); exact HO272.out) hb); have n1_ := Aside0.mk (Kd.R_below (by (with_reducible repeat (first | apply Kd.R_alloc | apply Kd.R_drewN | apply Kd.R_drew)); exact HO283.out) hb); have n2_ := Aside0.mk (Kd.C_below (by repeat (first | (with_reducible exact HR280.out) | (with_reducible refine Kd.C_alloc ?_ _) | (with_reducible refine Kd.C_drewN ?_ _) | (with_reducible refine Kd.C_drew ?_) | exact HR280.out)) hb); have n3_ := Aside0.mk (below_step (by repeat (first | (with_reducible first | exact HB.out | apply below_alloc | apply pw_below_drewN | apply below_drew1) | exact HB.out)) hb); clear HO272; clear HO283; clear HR280; clear HB; have HO272 := n0_; have HO283 := n1_; have HR280 := n2_; have HB := n3_; clear n0_ n1_ n2_ n3_; (try clear hb); (try clear hb2); (try clear hk); (try clear hi)) | (go_at_call 19; (with_reducible refine (filter_Extended.calls k t268 t295 _ A95.out).mono ?_); rintro e w110 ⟨rfl, hb⟩; have n0_ := Aside0.mk (Kd.R_below (by (with_reducible repeat (first | apply Kd.R_alloc | apply Kd.R_drewN | apply Kd.R_drew)); exact HO272.out) hb); have n1_ := Aside0.mk (Kd.R_below (by (with_reducible repeat (first | apply Kd.R_alloc | apply Kd.R_drewN | apply Kd.R_drew)); exact HO283.out) hb); have n2_ := Aside0.mk (Kd.C_below (by repeat (first | (with_reducible exact HR280.out) | (with_reducible refine Kd.C_alloc ?_ _) | (with_reducible refine Kd.C_drewN ?_ _) | (with_reducible refine Kd.C_drew ?_) | exact HR280.out)) hb); have n3_ := Aside0.mk (below_step (by repeat (first | (with_reducible first | exact HB.out | apply below_alloc | apply pw_below_drewN | apply below_drew1) | exact HB.out)) hb); clear HO272; clear HO283; clear HR280; clear HB; have HO272 := n0_; have HO283 := n1_; have HR280 := n2_; have HB := n3_; clear n0_ n1_ n2_ n3_; (try clear hb); (try clear hb2); (try clear hk); (try clear hi)))
          go_ret
          exact ⟨by first | rfl | (simp [errW_none, errW_some] <;> rfl) | (simp [*, errW_none, errW_some] <;> rfl), by repeat (first | (with_reducible first | exact HB.out | apply below_alloc | apply pw_below_drewN | apply below_drew1) | exact HB.out)⟩
         ·replace c94 := Bool.eq_false_iff.mpr c94
          subst c94
          have H1 : (some true) = some r := by rw [if_neg (show ¬ (false = true) by decide)] at H; exact H
          clear H
          have H := H1
          clear H1
          obtain rfl := Option.some.inj H
          go_enter Try.func5, Try.ntmps5
          try go_wp2_with (first | ((with_reducible refine gate_callee (f := 9) rfl ?_); refine goesL_ (some 9) rfl rfl Try.func9 (by kernel_rfl) rfl #[] rfl (by (try simp only [List.map_toArray, List.map_cons, List.map_nil]); first | done | rfl | (simp only [List.length_drop, List.length_take]; rfl)) ?_; (with_reducible refine (isoglosslaw20_awake.calls k  true _ A3.out).mono ?_); rintro e w111 ⟨rfl, hb⟩; refine ⟨_, rfl, ?_⟩; have n0_ := Aside0.mk (below_step (by repeat (first | (with_reducible first | exact HB.out | apply below_alloc | apply pw_below_drewN | apply below_drew1) | exact HB.out)) hb); clear HB; have HB := n0_; clear n0_; (try clear hb); (try clear hb2); (try clear hk); (try clear hi)) | ((with_reducible refine gate_callee (f := 10) rfl ?_); refine goesL_ (some 11) rfl rfl Try.func10 (by kernel_rfl) rfl #[.string a0] rfl (by (try simp only [List.map_toArray, List.map_cons, List.map_nil]); first | done | rfl | (simp only [List.length_drop, List.length_take]; rfl)) ?_; (with_reducible refine (isoglosslaw20_short.calls a0 t268 _ A4.out).mono ?_); rintro e w' ⟨rfl, ⟨nd, rfl⟩⟩; refine ⟨_, rfl, ?_⟩) | ((with_reducible refine gate_callee (f := 10) rfl ?_); refine goesL_ (some 13) rfl rfl Try.func10 (by kernel_rfl) rfl #[.string a1] rfl (by (try simp only [List.map_toArray, List.map_cons, List.map_nil]); first | done | rfl | (simp only [List.length_drop, List.length_take]; rfl)) ?_; (with_reducible refine (isoglosslaw20_short.calls a1 t269 _ A5.out).mono ?_); rintro e w' ⟨rfl, ⟨nd, rfl⟩⟩; refine ⟨_, rfl, ?_⟩) | ((with_reducible refine gate_callee (f := 16) rfl ?_); refine goesL_ (some 15) rfl rfl Try.func16 (by kernel_rfl) rfl #[.string t268] rfl (by (try simp only [List.map_toArray, List.map_cons, List.map_nil]); first | done | rfl | (simp only [List.length_drop, List.length_take]; rfl)) ?_; (with_reducible refine (isoglossref04_Split.calls k t268 t270 _ A6.out).mono ?_); rintro e w112 ⟨v271, rfl, ho0, hb⟩; refine ⟨_, rfl, ?_⟩; have n0_ := Aside0.mk (Kd.R_lower ho0 (below_size (by repeat (first | (with_reducible first | exact HB.out | apply below_alloc | apply pw_below_drewN | apply below_drew1) | exact HB.out)))); have n1_ := Aside0.mk (below_step (by repeat (first | (with_reducible first | exact HB.out | apply below_alloc | apply pw_below_drewN | apply below_drew1) | exact HB.out)) hb); clear HB; have HO272 := n0_; have HB := n1_; clear n0_ n1_; (try clear hb); (try clear hb2); (try clear hk); (try clear hi); (try clear ho0)))
          have n0_ := Aside0.mk (Kd.R_drew HO272.out)
          have n1_ := Aside0.mk (below_drew1 HB.out)
          clear HO272
          clear HB
          have HO272 := n0_
          have HB := n1_
          clear n0_ n1_
          obtain ⟨Ao114, co114, eo114⟩ := Kd.R_slice HO272.out
          (first | subst eo114 | (injection eo114 with f1_ f2_ f3_; have f4_ := f1_.symm; have f5_ := f3_.symm; clear f1_ f2_ f3_; subst f4_; subst f5_))
          have p273 : 0 ≤ (0 : Int) := (by omega)
          have q273 : 0 < (t270.length : Int) := of_decide_eq_true (by first | (with_reducible assumption) | assumption)
          obtain ⟨ad273, e273, hx273_0⟩ := Kd.at_string (Kd.R_reads' HO272.out).2.2 0 p273 q273
          cases e273
          have qi273 : (0 < t270.length) = True := eq_true (by omega)
          (try rw [show ((0 : Int)).toNat = 0 from rfl] at hx273_0)
          (try rw [Addr.add_zero'] at hx273_0)
          replace p273 := eq_true p273
          replace q273 := eq_true q273
          have q115 : (1 : Int) ≤ ((t270.length : Int) : Int) := of_decide_eq_true (by first | (with_reducible assumption) | assumption)
          obtain ⟨i0115, hi0115, _, hsz115, _⟩ := info_parts info9
          have hroom115 : t270.length ≤ co114 := (Kd.R_reads' HO272.out).2.1
          have hC115 : Kd.C Kd.string _ (some ad273) t270.length t270 := (Kd.R_reads' HO272.out).2.2
          have hcut115 := cut_from (P := Try.prog) 25 9 .i64 Try.underlying25 hi0115 1 hsz115 (some ad273) t270.length co114 1 (by omega) q115
          have hr115 := Kd.C_drop (m := (1 : Int).toNat) (c := co114) hC115 (by omega) hroom115
          obtain ⟨A115, hA115⟩ : ∃ A1, A1 = (if co114 = (1 : Int).toNat then (some ad273) else ((some ad273) : Option Addr).map (·.add ((1 : Int).toNat * 1))) := ⟨_, rfl⟩
          obtain ⟨c115, hc115⟩ : ∃ c1, c1 = co114 - (1 : Int).toNat := ⟨_, rfl⟩
          have hy115 : y277.length = t270.length - (1 : Int).toNat := (by rw [Ny277.out, List.length_drop] <;> omega)
          rw [show (t270).drop (1 : Int).toNat = y277 from Ny277.out.symm] at hr115
          replace hr115 : Kd.C Kd.string _ A115 y277.length y277 := (by rw [hA115]; exact hr115)
          rw [← hy115, ← hA115, ← hc115] at hcut115
          have HR280 := Aside0.mk hr115
          have HC280 := Aside0.mk (show y277.length ≤ c115 from by rw [hy115, hc115]; exact Nat.sub_le_sub_right hroom115 _)
          clear hr115 hC115 hroom115 hi0115 hsz115 hc115
          have KY115 := Aside0.mk hy115
          have KA115 := Aside0.mk hA115
          clear hy115 hA115
          have KL115 := Aside0.mk (show 1 ≤ t270.length from by omega)
          replace q115 := eq_true q115
          refine start_ (n := 8) (S := fun w' => w'.cell? ad273 = some (.string (rdOf ByteArray.empty t270 0))) (ds := [6]) #[false, false, false, false, false, false, false, false] (by kernel_rfl) rfl rfl (hx273_0) (fun hHeld => ?_); refine with_tabW isoglosslaw20_FilterMore.tab5 isoglosslaw20_FilterMore.bits5 (fun HT_ HW_ => ?_)
          generalize w112.drew = w113 at HO272 HB HR280 hx273_0 hHeld ⊢
          refine pure_ (i := 0) (N := some 16) (v := ?_) (a' := ?_) #[true, false, false, false, false, false, false, false] rfl rfl (any_of HT_.out (by kernel_rfl)) (fun _ _ _ h => h) (Or.inl ⟨by rfl, ?_⟩) ?_ ?_
          rotate_left
          ·intro w'
           go_simp
           with_reducible rfl
          rotate_left
          ·simp only [Act.put, List.setIfInBounds_toArray, List.set_cons_zero, List.set_cons_succ, i64_w, i32_w]
           rfl
          refine pure_ (i := 1) (N := some 17) (v := ?_) (a' := ?_) #[true, true, false, false, false, false, false, false] rfl rfl (any_of HT_.out (by kernel_rfl)) (fun _ _ _ h => h) (Or.inl ⟨by rfl, ?_⟩) ?_ ?_
          rotate_left
          ·intro w'
           go_simp
           with_reducible rfl
          rotate_left
          ·simp only [Act.put, List.setIfInBounds_toArray, List.set_cons_zero, List.set_cons_succ, i64_w, i32_w]
           rfl
          refine pure_ (i := 4) (N := some 20) (v := ?_) (a' := ?_) #[true, true, false, false, true, false, false, false] rfl rfl (any_of HT_.out (by kernel_rfl)) (fun _ _ _ h => h) (Or.inl ⟨by rfl, ?_⟩) ?_ ?_
          rotate_left
          ·intro w'
           go_simp
           with_reducible rfl
          rotate_left
          ·simp only [Act.put, List.setIfInBounds_toArray, List.set_cons_zero, List.set_cons_succ, i64_w, i32_w]
           rfl
          refine pure_ (i := 5) (N := some 21) (v := ?_) (a' := ?_) #[true, true, false, false, true, true, false, false] rfl rfl (any_of HT_.out (by kernel_rfl)) (fun _ _ _ h => h) (Or.inl ⟨by rfl, ?_⟩) ?_ ?_
          rotate_left
          ·intro w'
           go_simp
           with_reducible rfl
          rotate_left
          ·simp only [Act.put, List.setIfInBounds_toArray, List.set_cons_zero, List.set_cons_succ, i64_w, i32_w]
           rfl
          refine take_ (i := 2) (N := some 18) (v := ?_) (a' := ?_) #[true, true, true, false, true, true, false, false] rfl rfl (take_ofW HT_.out HW_.out (by kernel_rfl)) (fun _ _ _ h => h) (Or.inl ⟨by rfl, ?_⟩) hHeld ?_ ?_
          rotate_left
          ·intro w' s0
           go_simp
           with_reducible rfl
          rotate_left
          ·simp only [Act.put, List.setIfInBounds_toArray, List.set_cons_zero, List.set_cons_succ, i64_w, i32_w]
           rfl
          refine one_ (i := 3) (N := some 19) #[true, true, true, true, true, true, false, false] rfl rfl (one_of HT_.out (by kernel_rfl)) (by decide) (fun K hK => ?_)
          refine Kd.R_lit_step Kd.string _ 9 ?hg (N := 19) ?hd (xs := ([rdOf ByteArray.empty t270 0, (⟨#[42]⟩ : ByteArray)] : List ByteArray)) (inner := [.string (rdOf ByteArray.empty t270 0), .string (⟨#[42]⟩ : ByteArray)]) (ok := fun _ => True) (okp := fun _ => True) ?hr ?hp (fun _ hk => hk) trivial (Below.refl _ _) (Nat.le_refl _) (by simp) ?_; (case hd => rfl); (case hg => rfl); (case hr => first | (go_simp; done) | (go_simp; rfl)); (case hp => exact (Reps.one (show Kd.M Kd.string _ _ _ (rdOf ByteArray.empty t270 0) [.string (rdOf ByteArray.empty t270 0)] from rfl) (Reps.one (show Kd.M Kd.string _ _ _ (⟨#[42]⟩ : ByteArray) [.string (⟨#[42]⟩ : ByteArray)] from rfl) (Reps.none _ _))))
          intro v275 w116 ho117 hb hg_ hnew_
          have HS0_ := (hb.cell (World.block_lt_of_cell? _ _ (hHeld))).trans (hHeld)
          clear hg_ hnew_
          (first | rw [← Ny274.out] at ho117 | (simp only [Int.reduceToNat] at ho117; rw [← Ny274.out] at ho117))
          have n0_ := Aside0.mk (Kd.R_elder' (by (with_reducible repeat (first | apply Kd.R_alloc | apply Kd.R_drewN | apply Kd.R_drew)); exact HO272.out) (Kd.R_base ho117) hb)
          have n1_ := Aside0.mk (Kd.R_lower (Kd.R_new' ho117 (Kd.R_lt (by (with_reducible repeat (first | apply Kd.R_alloc | apply Kd.R_drewN | apply Kd.R_drew)); exact HO272.out))) (below_size (by repeat (first | (with_reducible first | exact HB.out | apply below_alloc | apply pw_below_drewN | apply below_drew1) | exact HB.out))))
          have n2_ := Aside0.mk (Kd.C_below (by repeat (first | (with_reducible exact HR280.out) | (with_reducible refine Kd.C_alloc ?_ _) | (with_reducible refine Kd.C_drewN ?_ _) | (with_reducible refine Kd.C_drew ?_) | exact HR280.out)) hb)
          have n3_ := Aside0.mk (below_step (by repeat (first | (with_reducible first | exact HB.out | apply below_alloc | apply pw_below_drewN | apply below_drew1) | exact HB.out)) hb)
          clear HO272
          clear HR280
          clear HB
          have HO272 := n0_
          have HO276 := n1_
          have HR280 := n2_
          have HB := n3_
          clear n0_ n1_ n2_ n3_
          clear hb ho117
          refine hK.out _ _ (HS0_) (fun hHeld => ?_)
          clear hK K
          refine norm_ (a' := ?_) ?_ ?_
          rotate_left
          ·show Act.put _ (some 19) _ = _
           simp only [Act.put, List.setIfInBounds_toArray, List.set_cons_zero, List.set_cons_succ, i64_w, i32_w]
           rfl
          refine last_ (i := 6) (N := some 22) #[true, true, true, true, true, true, true, false] rfl rfl (one_of HT_.out (by kernel_rfl)) (by decide) (fun K hK => ?_)
          refine Kd.R_append_rows_step Kd.string (w0 := w) w.heap.size (by rfl) (.tmp 19) (.tmp 21) 25 9 (.string ⟨#[]⟩) 16 rfl Try.underlying25 info9 rfl (by decide) (by omega) v275 y274 y277 _ _ _ (fun k_ => some k_ ≠ (.slice (some ad273) t270.length co114 : Value).ownBlock) (fun _ => False) rfl rfl ?aO ?aR (fun _ _ h => h) (fun _ h => h.elim) ?aF ?aB ?aS ?aL ?_
          (case aR => repeat (first | exact (by repeat (first | (with_reducible exact HR280.out) | (with_reducible refine Kd.C_alloc ?_ _) | (with_reducible refine Kd.C_drewN ?_ _) | (with_reducible refine Kd.C_drew ?_) | exact HR280.out)) | (with_reducible refine Kd.C_alloc ?_ _) | (with_reducible refine Kd.C_drewN ?_ _) | (with_reducible refine Kd.C_drew ?_)))
          (case aB => exact (by repeat (first | (with_reducible first | exact HB.out | apply below_alloc | apply pw_below_drewN | apply below_drew1) | exact HB.out)))
          (case aF => exact (fun k_ hk => Kd.fresh' (Kd.R_lt (by (with_reducible repeat (first | apply Kd.R_alloc | apply Kd.R_drewN | apply Kd.R_drew)); exact HO272.out)) k_ hk))
          (case aO => exact (by (with_reducible repeat (first | apply Kd.R_alloc | apply Kd.R_drewN | apply Kd.R_drew)); exact Kd.R_mono HO276.out (fun _ hk => hk.2)))
          (case aS => exact (below_size (by repeat (first | (with_reducible first | exact HB.out | apply below_alloc | apply pw_below_drewN | apply below_drew1) | exact HB.out))))
          (case aL => have := LMc9.out; omega)
          intro v282 w118 ho hb hg hat
          rw [← Ny281.out] at ho
          have n0_ := Aside0.mk (Kd.R_after (ok := (fun _ => True)) (by (with_reducible repeat (first | apply Kd.R_alloc | apply Kd.R_drewN | apply Kd.R_drew)); exact HO272.out) hg hat)
          have n1_ := Aside0.mk (hb)
          have n2_ := Aside0.mk ((show Kd.C Kd.string w118 A115 y277.length y277 from by rw [Ny277.out, KA115.out]; exact Kd.C_drop (m := 1) (c := co114) ((Kd.R_reads' (Kd.R_after (ok := (fun _ => True)) (by (with_reducible repeat (first | apply Kd.R_alloc | apply Kd.R_drewN | apply Kd.R_drew)); exact HO272.out) hg hat)).2.2) KL115.out ((Kd.R_reads' (Kd.R_after (ok := (fun _ => True)) (by (with_reducible repeat (first | apply Kd.R_alloc | apply Kd.R_drewN | apply Kd.R_drew)); exact HO272.out) hg hat)).2.1)))
          have n3_ := Aside0.mk (ho)
          clear HO272
          clear HB
          clear HR280
          clear HO276
          have HO272 := n0_
          have HB := n1_
          have HR280 := n2_
          have HO283 := n3_
          clear n0_ n1_ n2_ n3_
          clear ho hb hg hat
          refine hK.out _ _ ?_
          clear hK K
          refine norm_ (a' := ?_) ?_ ?_
          rotate_left
          ·show Act.put _ (some 22) _ = _
           simp only [Act.put, List.setIfInBounds_toArray, List.set_cons_zero, List.set_cons_succ, i64_w, i32_w]
           rfl
          refine pure_ (i := 7) (N := some 7) (v := ?_) (a' := ?_) #[true, true, true, true, true, true, true, true] rfl rfl (any_of HT_.out (by kernel_rfl)) (fun _ _ _ h => h) (Or.inl ⟨by rfl, ?_⟩) ?_ ?_
          rotate_left
          ·intro w'
           go_simp
           with_reducible rfl
          rotate_left
          ·simp only [Act.put, List.setIfInBounds_toArray, List.set_cons_zero, List.set_cons_succ, i64_w, i32_w]
           rfl
          refine done_ (done_of HT_.out (by kernel_rfl)) ?_
          try go_wp2_with (first | ((with_reducible refine gate_callee (f := 13) rfl ?_); refine goesL_ (some 25) rfl rfl Try.func13 (by kernel_rfl) rfl #[.string t268, .string t269] rfl (by (try simp only [List.map_toArray, List.map_cons, List.map_nil]); first | done | rfl | (simp only [List.length_drop, List.length_take]; rfl)) ?_; (with_reducible refine (filter_MatchesExtended.calls k t268 t269 t284 _ A10.out).mono ?_); rintro e w119 ⟨rfl, hb⟩; refine ⟨_, rfl, ?_⟩; have n0_ := Aside0.mk (Kd.R_below (by (with_reducible repeat (first | apply Kd.R_alloc | apply Kd.R_drewN | apply Kd.R_drew)); exact HO272.out) hb); have n1_ := Aside0.mk (Kd.R_below (by (with_reducible repeat (first | apply Kd.R_alloc | apply Kd.R_drewN | apply Kd.R_drew)); exact HO283.out) hb); have n2_ := Aside0.mk (Kd.C_below (by repeat (first | (with_reducible exact HR280.out) | (with_reducible refine Kd.C_alloc ?_ _) | (with_reducible refine Kd.C_drewN ?_ _) | (with_reducible refine Kd.C_drew ?_) | exact HR280.out)) hb); have n3_ := Aside0.mk (below_step (by repeat (first | (with_reducible first | exact HB.out | apply below_alloc | apply pw_below_drewN | apply below_drew1) | exact HB.out)) hb); clear HO272; clear HO283; clear HR280; clear HB; have HO272 := n0_; have HO283 := n1_; have HR280 := n2_; have HB := n3_; clear n0_ n1_ n2_ n3_; (try clear hb); (try clear hb2); (try clear hk); (try clear hi)) | (go_at_call 12; (with_reducible refine (filter_Matches.calls k t268 t269 false _ A12.out).mono ?_); rintro e w120 ⟨rfl, hb⟩; have n0_ := Aside0.mk (Kd.R_below (by (with_reducible repeat (first | apply Kd.R_alloc | apply Kd.R_drewN | apply Kd.R_drew)); exact HO272.out) hb); have n1_ := Aside0.mk (Kd.R_below (by (with_reducible repeat (first | apply Kd.R_alloc | apply Kd.R_drewN | apply Kd.R_drew)); exact HO283.out) hb); have n2_ := Aside0.mk (Kd.C_below (by repeat (first | (with_reducible exact HR280.out) | (with_reducible refine Kd.C_alloc ?_ _) | (with_reducible refine Kd.C_drewN ?_ _) | (with_reducible refine Kd.C_drew ?_) | exact HR280.out)) hb); have n3_ := Aside0.mk (below_step (by repeat (first | (with_reducible first | exact HB.out | apply below_alloc | apply pw_below_drewN | apply below_drew1) | exact HB.out)) hb); clear HO272; clear HO283; clear HR280; clear HB; have HO272 := n0_; have HO283 := n1_; have HR280 := n2_; have HB := n3_; clear n0_ n1_ n2_ n3_; (try clear hb); (try clear hb2); (try clear hk); (try clear hi)) | (go_at_call 13; (with_reducible refine (filter_MatchesExtended.calls k (t268 ++ (⟨#[45, 42]⟩ : ByteArray)) t269 t291 _ A88.out).mono ?_); rintro e w121 ⟨rfl, hb⟩; have n0_ := Aside0.mk (Kd.R_below (by (with_reducible repeat (first | apply Kd.R_alloc | apply Kd.R_drewN | apply Kd.R_drew)); exact HO272.out) hb); have n1_ := Aside0.mk (Kd.R_below (by (with_reducible repeat (first | apply Kd.R_alloc | apply Kd.R_drewN | apply Kd.R_drew)); exact HO283.out) hb); have n2_ := Aside0.mk (Kd.C_below (by repeat (first | (with_reducible exact HR280.out) | (with_reducible refine Kd.C_alloc ?_ _) | (with_reducible refine Kd.C_drewN ?_ _) | (with_reducible refine Kd.C_drew ?_) | exact HR280.out)) hb); have n3_ := Aside0.mk (below_step (by repeat (first | (with_reducible first | exact HB.out | apply below_alloc | apply pw_below_drewN | apply below_drew1) | exact HB.out)) hb); clear HO272; clear HO283; clear HR280; clear HB; have HO272 := n0_; have HO283 := n1_; have HR280 := n2_; have HB := n3_; clear n0_ n1_ n2_ n3_; (try clear hb); (try clear hb2); (try clear hk); (try clear hi); obtain ⟨Ao122, co122, eo122⟩ := Kd.R_slice HO283.out; subst eo122) | (go_at_call 17; (with_reducible refine (isoglossref04_Join.calls k _ _ y281 t292 _ ?side1 ?side2 A90.out).mono ?_); (case side1 => repeat (first | exact (Kd.R_reads' HO283.out).2.2 | (with_reducible refine Kd.C_alloc ?_ _) | (with_reducible refine Kd.C_drewN ?_ _) | (with_reducible refine Kd.C_drew ?_))); (case side2 => exact (Kd.R_reads' HO283.out).2.1); rintro e w' ⟨rfl, ⟨nd, rfl⟩⟩) | (go_at_call 13; (with_reducible refine (filter_MatchesExtended.calls k t292 t269 t293 _ A91.out).mono ?_); rintro e w123 ⟨rfl, hb⟩; have n0_ := Aside0.mk (Kd.R_below (by (with_reducible repeat (first | apply Kd.R_alloc | apply Kd.R_drewN | apply Kd.R_drew)); exact HO272.out) hb); have n1_ := Aside0.mk (Kd.R_below (by (with_reducible repeat (first | apply Kd.R_alloc | apply Kd.R_drewN | apply Kd.R_drew)); exact HO283.out) hb); have n2_ := Aside0.mk (Kd.C_below (by repeat (first | (with_reducible exact HR280.out) | (with_reducible refine Kd.C_alloc ?_ _) | (with_reducible refine Kd.C_drewN ?_ _) | (with_reducible refine Kd.C_drew ?_) | exact HR280.out)) hb); have n3_ := Aside0.mk (below_step (by repeat (first | (with_reducible first | exact HB.out | apply below_alloc | apply pw_below_drewN | apply below_drew1) | exact HB.out)) hb); clear HO272; clear HO283; clear HR280; clear HB; have HO272 := n0_; have HO283 := n1_; have HR280 := n2_; have HB := n3_; clear n0_ n1_ n2_ n3_; (try clear hb); (try clear hb2); (try clear hk); (try clear hi)) | (go_at_call 18; (with_reducible refine (filter_Basic.calls k t268 false _ A93.out).mono ?_); rintro e w124 ⟨rfl, hb⟩; have n0_ := Aside0.mk (Kd.R_below (by (with_reducible repeat (first | apply Kd.R_alloc | apply Kd.R_drewN | apply Kd.R_drew)); exact HO272.out) hb); have n1_ := Aside0.mk (Kd.R_below (by (with_reducible repeat (first | apply Kd.R_alloc | apply Kd.R_drewN | apply Kd.R_drew)); exact HO283.out) hb); have n2_ := Aside0.mk (Kd.C_below (by repeat (first | (with_reducible exact HR280.out) | (with_reducible refine Kd.C_alloc ?_ _) | (with_reducible refine Kd.C_drewN ?_ _) | (with_reducible refine Kd.C_drew ?_) | exact HR280.out)) hb); have n3_ := Aside0.mk (below_step (by repeat (first | (with_reducible first | exact HB.out | apply below_alloc | apply pw_below_drewN | apply below_drew1) | exact HB.out)) hb); clear HO272; clear HO283; clear HR280; clear HB; have HO272 := n0_; have HO283 := n1_; have HR280 := n2_; have HB := n3_; clear n0_ n1_ n2_ n3_; (try clear hb); (try clear hb2); (try clear hk); (try clear hi)))
          go_ret
          exact ⟨by first | rfl | (simp [errW_none, errW_some] <;> rfl) | (simp [*, errW_none, errW_some] <;> rfl), by repeat (first | (with_reducible first | exact HB.out | apply below_alloc | apply pw_below_drewN | apply below_drew1) | exact HB.out)⟩
        ·rw [if_neg c92] at H
         have c92b0 : (t293 == t284) = false := by simpa using c92
         (try (have c92b1 : decide (t293 = t284) = false := by simpa using c92))
         (try (have c92b2 : (t293 == t284) = false := by simpa using c92))
         (try (have c92b3 : ¬ (t293 = t284) := by simpa using c92))
         clear c92
         obtain rfl := Option.some.inj H
         go_enter Try.func5, Try.ntmps5
         try go_wp2_with (first | ((with_reducible refine gate_callee (f := 9) rfl ?_); refine goesL_ (some 9) rfl rfl Try.func9 (by kernel_rfl) rfl #[] rfl (by (try simp only [List.map_toArray, List.map_cons, List.map_nil]); first | done | rfl | (simp only [List.length_drop, List.length_take]; rfl)) ?_; (with_reducible refine (isoglosslaw20_awake.calls k  true _ A3.out).mono ?_); rintro e w125 ⟨rfl, hb⟩; refine ⟨_, rfl, ?_⟩; have n0_ := Aside0.mk (below_step (by repeat (first | (with_reducible first | exact HB.out | apply below_alloc | apply pw_below_drewN | apply below_drew1) | exact HB.out)) hb); clear HB; have HB := n0_; clear n0_; (try clear hb); (try clear hb2); (try clear hk); (try clear hi)) | ((with_reducible refine gate_callee (f := 10) rfl ?_); refine goesL_ (some 11) rfl rfl Try.func10 (by kernel_rfl) rfl #[.string a0] rfl (by (try simp only [List.map_toArray, List.map_cons, List.map_nil]); first | done | rfl | (simp only [List.length_drop, List.length_take]; rfl)) ?_; (with_reducible refine (isoglosslaw20_short.calls a0 t268 _ A4.out).mono ?_); rintro e w' ⟨rfl, ⟨nd, rfl⟩⟩; refine ⟨_, rfl, ?_⟩) | ((with_reducible refine gate_callee (f := 10) rfl ?_); refine goesL_ (some 13) rfl rfl Try.func10 (by kernel_rfl) rfl #[.string a1] rfl (by (try simp only [List.map_toArray, List.map_cons, List.map_nil]); first | done | rfl | (simp only [List.length_drop, List.length_take]; rfl)) ?_; (with_reducible refine (isoglosslaw20_short.calls a1 t269 _ A5.out).mono ?_); rintro e w' ⟨rfl, ⟨nd, rfl⟩⟩; refine ⟨_, rfl, ?_⟩) | ((with_reducible refine gate_callee (f := 16) rfl ?_); refine goesL_ (some 15) rfl rfl Try.func16 (by kernel_rfl) rfl #[.string t268] rfl (by (try simp only [List.map_toArray, List.map_cons, List.map_nil]); first | done | rfl | (simp only [List.length_drop, List.length_take]; rfl)) ?_; (with_reducible refine (isoglossref04_Split.calls k t268 t270 _ A6.out).mono ?_); rintro e w126 ⟨v271, rfl, ho0, hb⟩; refine ⟨_, rfl, ?_⟩; have n0_ := Aside0.mk (Kd.R_lower ho0 (below_size (by repeat (first | (with_reducible first | exact HB.out | apply below_alloc | apply pw_below_drewN | apply below_drew1) | exact HB.out)))); have n1_ := Aside0.mk (below_step (by repeat (first | (with_reducible first | exact HB.out | apply below_alloc | apply pw_below_drewN | apply below_drew1) | exact HB.out)) hb); clear HB; have HO272 := n0_; have HB := n1_; clear n0_ n1_; (try clear hb); (try clear hb2); (try clear hk); (try clear hi); (try clear ho0)))
         have n0_ := Aside0.mk (Kd.R_drew HO272.out)
         have n1_ := Aside0.mk (below_drew1 HB.out)
         clear HO272
         clear HB
         have HO272 := n0_
         have HB := n1_
         clear n0_ n1_
         obtain ⟨Ao128, co128, eo128⟩ := Kd.R_slice HO272.out
         (first | subst eo128 | (injection eo128 with f1_ f2_ f3_; have f4_ := f1_.symm; have f5_ := f3_.symm; clear f1_ f2_ f3_; subst f4_; subst f5_))
         have p273 : 0 ≤ (0 : Int) := (by omega)
         have q273 : 0 < (t270.length : Int) := of_decide_eq_true (by first | (with_reducible assumption) | assumption)
         obtain ⟨ad273, e273, hx273_0⟩ := Kd.at_string (Kd.R_reads' HO272.out).2.2 0 p273 q273
         cases e273
         have qi273 : (0 < t270.length) = True := eq_true (by omega)
         (try rw [show ((0 : Int)).toNat = 0 from rfl] at hx273_0)
         (try rw [Addr.add_zero'] at hx273_0)
         replace p273 := eq_true p273
         replace q273 := eq_true q273
         have q129 : (1 : Int) ≤ ((t270.length : Int) : Int) := of_decide_eq_true (by first | (with_reducible assumption) | assumption)
         obtain ⟨i0129, hi0129, _, hsz129, _⟩ := info_parts info9
         have hroom129 : t270.length ≤ co128 := (Kd.R_reads' HO272.out).2.1
         have hC129 : Kd.C Kd.string _ (some ad273) t270.length t270 := (Kd.R_reads' HO272.out).2.2
         have hcut129 := cut_from (P := Try.prog) 25 9 .i64 Try.underlying25 hi0129 1 hsz129 (some ad273) t270.length co128 1 (by omega) q129
         have hr129 := Kd.C_drop (m := (1 : Int).toNat) (c := co128) hC129 (by omega) hroom129
         obtain ⟨A129, hA129⟩ : ∃ A1, A1 = (if co128 = (1 : Int).toNat then (some ad273) else ((some ad273) : Option Addr).map (·.add ((1 : Int).toNat * 1))) := ⟨_, rfl⟩
         obtain ⟨c129, hc129⟩ : ∃ c1, c1 = co128 - (1 : Int).toNat := ⟨_, rfl⟩
         have hy129 : y277.length = t270.length - (1 : Int).toNat := (by rw [Ny277.out, List.length_drop] <;> omega)
         rw [show (t270).drop (1 : Int).toNat = y277 from Ny277.out.symm] at hr129
         replace hr129 : Kd.C Kd.string _ A129 y277.length y277 := (by rw [hA129]; exact hr129)
         rw [← hy129, ← hA129, ← hc129] at hcut129
         have HR280 := Aside0.mk hr129
         have HC280 := Aside0.mk (show y277.length ≤ c129 from by rw [hy129, hc129]; exact Nat.sub_le_sub_right hroom129 _)
         clear hr129 hC129 hroom129 hi0129 hsz129 hc129
         have KY129 := Aside0.mk hy129
         have KA129 := Aside0.mk hA129
         clear hy129 hA129
         have KL129 := Aside0.mk (show 1 ≤ t270.length from by omega)
         replace q129 := eq_true q129
         refine start_ (n := 8) (S := fun w' => w'.cell? ad273 = some (.string (rdOf ByteArray.empty t270 0))) (ds := [6]) #[false, false, false, false, false, false, false, false] (by kernel_rfl) rfl rfl (hx273_0) (fun hHeld => ?_); refine with_tabW isoglosslaw20_FilterMore.tab5 isoglosslaw20_FilterMore.bits5 (fun HT_ HW_ => ?_)
         generalize w126.drew = w127 at HO272 HB HR280 hx273_0 hHeld ⊢
         refine pure_ (i := 0) (N := some 16) (v := ?_) (a' := ?_) #[true, false, false, false, false, false, false, false] rfl rfl (any_of HT_.out (by kernel_rfl)) (fun _ _ _ h => h) (Or.inl ⟨by rfl, ?_⟩) ?_ ?_
         rotate_left
         ·intro w'
          go_simp
          with_reducible rfl
         rotate_left
         ·simp only [Act.put, List.setIfInBounds_toArray, List.set_cons_zero, List.set_cons_succ, i64_w, i32_w]
          rfl
         refine pure_ (i := 1) (N := some 17) (v := ?_) (a' := ?_) #[true, true, false, false, false, false, false, false] rfl rfl (any_of HT_.out (by kernel_rfl)) (fun _ _ _ h => h) (Or.inl ⟨by rfl, ?_⟩) ?_ ?_
         rotate_left
         ·intro w'
          go_simp
          with_reducible rfl
         rotate_left
         ·simp only [Act.put, List.setIfInBounds_toArray, List.set_cons_zero, List.set_cons_succ, i64_w, i32_w]
          rfl
         refine pure_ (i := 4) (N := some 20) (v := ?_) (a' := ?_) #[true, true, false, false, true, false, false, false] rfl rfl (any_of HT_.out (by kernel_rfl)) (fun _ _ _ h => h) (Or.inl ⟨by rfl, ?_⟩) ?_ ?_
         rotate_left
         ·intro w'
          go_simp
          with_reducible rfl
         rotate_left
         ·simp only [Act.put, List.setIfInBounds_toArray, List.set_cons_zero, List.set_cons_succ, i64_w, i32_w]
          rfl
         refine pure_ (i := 5) (N := some 21) (v := ?_) (a' := ?_) #[true, true, false, false, true, true, false, false] rfl rfl (any_of HT_.out (by kernel_rfl)) (fun _ _ _ h => h) (Or.inl ⟨by rfl, ?_⟩) ?_ ?_
         rotate_left
         ·intro w'
          go_simp
          with_reducible rfl
         rotate_left
         ·simp only [Act.put, List.setIfInBounds_toArray, List.set_cons_zero, List.set_cons_succ, i64_w, i32_w]
          rfl
         refine take_ (i := 2) (N := some 18) (v := ?_) (a' := ?_) #[true, true, true, false, true, true, false, false] rfl rfl (take_ofW HT_.out HW_.out (by kernel_rfl)) (fun _ _ _ h => h) (Or.inl ⟨by rfl, ?_⟩) hHeld ?_ ?_
         rotate_left
         ·intro w' s0
          go_simp
          with_reducible rfl
         rotate_left
         ·simp only [Act.put, List.setIfInBounds_toArray, List.set_cons_zero, List.set_cons_succ, i64_w, i32_w]
          rfl
         refine one_ (i := 3) (N := some 19) #[true, true, true, true, true, true, false, false] rfl rfl (one_of HT_.out (by kernel_rfl)) (by decide) (fun K hK => ?_)
         refine Kd.R_lit_step Kd.string _ 9 ?hg (N := 19) ?hd (xs := ([rdOf ByteArray.empty t270 0, (⟨#[42]⟩ : ByteArray)] : List ByteArray)) (inner := [.string (rdOf ByteArray.empty t270 0), .string (⟨#[42]⟩ : ByteArray)]) (ok := fun _ => True) (okp := fun _ => True) ?hr ?hp (fun _ hk => hk) trivial (Below.refl _ _) (Nat.le_refl _) (by simp) ?_; (case hd => rfl); (case hg => rfl); (case hr => first | (go_simp; done) | (go_simp; rfl)); (case hp => exact (Reps.one (show Kd.M Kd.string _ _ _ (rdOf ByteArray.empty t270 0) [.string (rdOf ByteArray.empty t270 0)] from rfl) (Reps.one (show Kd.M Kd.string _ _ _ (⟨#[42]⟩ : ByteArray) [.string (⟨#[42]⟩ : ByteArray)] from rfl) (Reps.none _ _))))
         intro v275 w130 ho131 hb hg_ hnew_
         have HS0_ := (hb.cell (World.block_lt_of_cell? _ _ (hHeld))).trans (hHeld)
         clear hg_ hnew_
         (first | rw [← Ny274.out] at ho131 | (simp only [Int.reduceToNat] at ho131; rw [← Ny274.out] at ho131))
         have n0_ := Aside0.mk (Kd.R_elder' (by (with_reducible repeat (first | apply Kd.R_alloc | apply Kd.R_drewN | apply Kd.R_drew)); exact HO272.out) (Kd.R_base ho131) hb)
         have n1_ := Aside0.mk (Kd.R_lower (Kd.R_new' ho131 (Kd.R_lt (by (with_reducible repeat (first | apply Kd.R_alloc | apply Kd.R_drewN | apply Kd.R_drew)); exact HO272.out))) (below_size (by repeat (first | (with_reducible first | exact HB.out | apply below_alloc | apply pw_below_drewN | apply below_drew1) | exact HB.out))))
         have n2_ := Aside0.mk (Kd.C_below (by repeat (first | (with_reducible exact HR280.out) | (with_reducible refine Kd.C_alloc ?_ _) | (with_reducible refine Kd.C_drewN ?_ _) | (with_reducible refine Kd.C_drew ?_) | exact HR280.out)) hb)
         have n3_ := Aside0.mk (below_step (by repeat (first | (with_reducible first | exact HB.out | apply below_alloc | apply pw_below_drewN | apply below_drew1) | exact HB.out)) hb)
         clear HO272
         clear HR280
         clear HB
         have HO272 := n0_
         have HO276 := n1_
         have HR280 := n2_
         have HB := n3_
         clear n0_ n1_ n2_ n3_
         clear hb ho131
         refine hK.out _ _ (HS0_) (fun hHeld => ?_)
         clear hK K
         refine norm_ (a' := ?_) ?_ ?_
         rotate_left
         ·show Act.put _ (some 19) _ = _
          simp only [Act.put, List.setIfInBounds_toArray, List.set_cons_zero, List.set_cons_succ, i64_w, i32_w]
          rfl
         refine last_ (i := 6) (N := some 22) #[true, true, true, true, true, true, true, false] rfl rfl (one_of HT_.out (by kernel_rfl)) (by decide) (fun K hK => ?_)
         refine Kd.R_append_rows_step Kd.string (w0 := w) w.heap.size (by rfl) (.tmp 19) (.tmp 21) 25 9 (.string ⟨#[]⟩) 16 rfl Try.underlying25 info9 rfl (by decide) (by omega) v275 y274 y277 _ _ _ (fun k_ => some k_ ≠ (.slice (some ad273) t270.length co128 : Value).ownBlock) (fun _ => False) rfl rfl ?aO ?aR (fun _ _ h => h) (fun _ h => h.elim) ?aF ?aB ?aS ?aL ?_
         (case aR => repeat (first | exact (by repeat (first | (with_reducible exact HR280.out) | (with_reducible refine Kd.C_alloc ?_ _) | (with_reducible refine Kd.C_drewN ?_ _) | (with_reducible refine Kd.C_drew ?_) | exact HR280.out)) | (with_reducible refine Kd.C_alloc ?_ _) | (with_reducible refine Kd.C_drewN ?_ _) | (with_reducible refine Kd.C_drew ?_)))
         (case aB => exact (by repeat (first | (with_reducible first | exact HB.out | apply below_alloc | apply pw_below_drewN | apply below_drew1) | exact HB.out)))
         (case aF => exact (fun k_ hk => Kd.fresh' (Kd.R_lt (by (with_reducible repeat (first | apply Kd.R_alloc | apply Kd.R_drewN | apply Kd.R_drew)); exact HO272.out)) k_ hk))
         (case aO => exact (by (with_reducible repeat (first | apply Kd.R_alloc | apply Kd.R_drewN | apply Kd.R_drew)); exact Kd.R_mono HO276.out (fun _ hk => hk.2)))
         (case aS => exact (below_size (by repeat (first | (with_reducible first | exact HB.out | apply below_alloc | apply pw_below_drewN | apply below_drew1) | exact HB.out))))
         (case aL => have := LMc9.out; omega)
         intro v282 w132 ho hb hg hat
         rw [← Ny281.out] at ho
         have n0_ := Aside0.mk (Kd.R_after (ok := (fun _ => True)) (by (with_reducible repeat (first | apply Kd.R_alloc | apply Kd.R_drewN | apply Kd.R_drew)); exact HO272.out) hg hat)
         have n1_ := Aside0.mk (hb)
         have n2_ := Aside0.mk ((show Kd.C Kd.string w132 A129 y277.length y277 from by rw [Ny277.out, KA129.out]; exact Kd.C_drop (m := 1) (c := co128) ((Kd.R_reads' (Kd.R_after (ok := (fun _ => True)) (by (with_reducible repeat (first | apply Kd.R_alloc | apply Kd.R_drewN | apply Kd.R_drew)); exact HO272.out) hg hat)).2.2) KL129.out ((Kd.R_reads' (Kd.R_after (ok := (fun _ => True)) (by (with_reducible repeat (first | apply Kd.R_alloc | apply Kd.R_drewN | apply Kd.R_drew)); exact HO272.out) hg hat)).2.1)))
         have n3_ := Aside0.mk (ho)
         clear HO272
         clear HB
         clear HR280
         clear HO276
         have HO272 := n0_
         have HB := n1_
         have HR280 := n2_
         have HO283 := n3_
         clear n0_ n1_ n2_ n3_
         clear ho hb hg hat
         refine hK.out _ _ ?_
         clear hK K
         refine norm_ (a' := ?_) ?_ ?_
         rotate_left
         ·show Act.put _ (some 22) _ = _
          simp only [Act.put, List.setIfInBounds_toArray, List.set_cons_zero, List.set_cons_succ, i64_w, i32_w]
          rfl
         refine pure_ (i := 7) (N := some 7) (v := ?_) (a' := ?_) #[true, true, true, true, true, true, true, true] rfl rfl (any_of HT_.out (by kernel_rfl)) (fun _ _ _ h => h) (Or.inl ⟨by rfl, ?_⟩) ?_ ?_
         rotate_left
         ·intro w'
          go_simp
          with_reducible rfl
         rotate_left
         ·simp only [Act.put, List.setIfInBounds_toArray, List.set_cons_zero, List.set_cons_succ, i64_w, i32_w]
          rfl
         refine done_ (done_of HT_.out (by kernel_rfl)) ?_
         try go_wp2_with (first | ((with_reducible refine gate_callee (f := 13) rfl ?_); refine goesL_ (some 25) rfl rfl Try.func13 (by kernel_rfl) rfl #[.string t268, .string t269] rfl (by (try simp only [List.map_toArray, List.map_cons, List.map_nil]); first | done | rfl | (simp only [List.length_drop, List.length_take]; rfl)) ?_; (with_reducible refine (filter_MatchesExtended.calls k t268 t269 t284 _ A10.out).mono ?_); rintro e w133 ⟨rfl, hb⟩; refine ⟨_, rfl, ?_⟩; have n0_ := Aside0.mk (Kd.R_below (by (with_reducible repeat (first | apply Kd.R_alloc | apply Kd.R_drewN | apply Kd.R_drew)); exact HO272.out) hb); have n1_ := Aside0.mk (Kd.R_below (by (with_reducible repeat (first | apply Kd.R_alloc | apply Kd.R_drewN | apply Kd.R_drew)); exact HO283.out) hb); have n2_ := Aside0.mk (Kd.C_below (by repeat (first | (with_reducible exact HR280.out) | (with_reducible refine Kd.C_alloc ?_ _) | (with_reducible refine Kd.C_drewN ?_ _) | (with_reducible refine Kd.C_drew ?_) | exact HR280.out)) hb); have n3_ := Aside0.mk (below_step (by repeat (first | (with_reducible first | exact HB.out | apply below_alloc | apply pw_below_drewN | apply below_drew1) | exact HB.out)) hb); clear HO272; clear HO283; clear HR280; clear HB; have HO272 := n0_; have HO283 := n1_; have HR280 := n2_; have HB := n3_; clear n0_ n1_ n2_ n3_; (try clear hb); (try clear hb2); (try clear hk); (try clear hi)) | (go_at_call 12; (with_reducible refine (filter_Matches.calls k t268 t269 false _ A12.out).mono ?_); rintro e w134 ⟨rfl, hb⟩; have n0_ := Aside0.mk (Kd.R_below (by (with_reducible repeat (first | apply Kd.R_alloc | apply Kd.R_drewN | apply Kd.R_drew)); exact HO272.out) hb); have n1_ := Aside0.mk (Kd.R_below (by (with_reducible repeat (first | apply Kd.R_alloc | apply Kd.R_drewN | apply Kd.R_drew)); exact HO283.out) hb); have n2_ := Aside0.mk (Kd.C_below (by repeat (first | (with_reducible exact HR280.out) | (with_reducible refine Kd.C_alloc ?_ _) | (with_reducible refine Kd.C_drewN ?_ _) | (with_reducible refine Kd.C_drew ?_) | exact HR280.out)) hb); have n3_ := Aside0.mk (below_step (by repeat (first | (with_reducible first | exact HB.out | apply below_alloc | apply pw_below_drewN | apply below_drew1) | exact HB.out)) hb); clear HO272; clear HO283; clear HR280; clear HB; have HO272 := n0_; have HO283 := n1_; have HR280 := n2_; have HB := n3_; clear n0_ n1_ n2_ n3_; (try clear hb); (try clear hb2); (try clear hk); (try clear hi)) | (go_at_call 13; (with_reducible refine (filter_MatchesExtended.calls k (t268 ++ (⟨#[45, 42]⟩ : ByteArray)) t269 t291 _ A88.out).mono ?_); rintro e w135 ⟨rfl, hb⟩; have n0_ := Aside0.mk (Kd.R_below (by (with_reducible repeat (first | apply Kd.R_alloc | apply Kd.R_drewN | apply Kd.R_drew)); exact HO272.out) hb); have n1_ := Aside0.mk (Kd.R_below (by (with_reducible repeat (first | apply Kd.R_alloc | apply Kd.R_drewN | apply Kd.R_drew)); exact HO283.out) hb); have n2_ := Aside0.mk (Kd.C_below (by repeat (first | (with_reducible exact HR280.out) | (with_reducible refine Kd.C_alloc ?_ _) | (with_reducible refine Kd.C_drewN ?_ _) | (with_reducible refine Kd.C_drew ?_) | exact HR280.out)) hb); have n3_ := Aside0.mk (below_step (by repeat (first | (with_reducible first | exact HB.out | apply below_alloc | apply pw_below_drewN | apply below_drew1) | exact HB.out)) hb); clear HO272; clear HO283; clear HR280; clear HB; have HO272 := n0_; have HO283 := n1_; have HR280 := n2_; have HB := n3_; clear n0_ n1_ n2_ n3_; (try clear hb); (try clear hb2); (try clear hk); (try clear hi); obtain ⟨Ao136, co136, eo136⟩ := Kd.R_slice HO283.out; subst eo136) | (go_at_call 17; (with_reducible refine (isoglossref04_Join.calls k _ _ y281 t292 _ ?side1 ?side2 A90.out).mono ?_); (case side1 => repeat (first | exact (Kd.R_reads' HO283.out).2.2 | (with_reducible refine Kd.C_alloc ?_ _) | (with_reducible refine Kd.C_drewN ?_ _) | (with_reducible refine Kd.C_drew ?_))); (case side2 => exact (Kd.R_reads' HO283.out).2.1); rintro e w' ⟨rfl, ⟨nd, rfl⟩⟩) | (go_at_call 13; (with_reducible refine (filter_MatchesExtended.calls k t292 t269 t293 _ A91.out).mono ?_); rintro e w137 ⟨rfl, hb⟩; have n0_ := Aside0.mk (Kd.R_below (by (with_reducible repeat (first | apply Kd.R_alloc | apply Kd.R_drewN | apply Kd.R_drew)); exact HO272.out) hb); have n1_ := Aside0.mk (Kd.R_below (by (with_reducible repeat (first | apply Kd.R_alloc | apply Kd.R_drewN | apply Kd.R_drew)); exact HO283.out) hb); have n2_ := Aside0.mk (Kd.C_below (by repeat (first | (with_reducible exact HR280.out) | (with_reducible refine Kd.C_alloc ?_ _) | (with_reducible refine Kd.C_drewN ?_ _) | (with_reducible refine Kd.C_drew ?_) | exact HR280.out)) hb); have n3_ := Aside0.mk (below_step (by repeat (first | (with_reducible first | exact HB.out | apply below_alloc | apply pw_below_drewN | apply below_drew1) | exact HB.out)) hb); clear HO272; clear HO283; clear HR280; clear HB; have HO272 := n0_; have HO283 := n1_; have HR280 := n2_; have HB := n3_; clear n0_ n1_ n2_ n3_; (try clear hb); (try clear hb2); (try clear hk); (try clear hi)))
         go_ret
         exact ⟨by first | rfl | (simp [errW_none, errW_some] <;> rfl) | (simp [*, errW_none, errW_some] <;> rfl), by repeat (first | (with_reducible first | exact HB.out | apply below_alloc | apply pw_below_drewN | apply below_drew1) | exact HB.out)⟩
       ·rw [if_neg c89] at H
        have c89b0 : (t291 == t284) = false := by simpa using c89
        (try (have c89b1 : decide (t291 = t284) = false := by simpa using c89))
        (try (have c89b2 : (t291 == t284) = false := by simpa using c89))
        (try (have c89b3 : ¬ (t291 = t284) := by simpa using c89))
        clear c89
        obtain rfl := Option.some.inj H
        go_enter Try.func5, Try.ntmps5
        try go_wp2_with (first | ((with_reducible refine gate_callee (f := 9) rfl ?_); refine goesL_ (some 9) rfl rfl Try.func9 (by kernel_rfl) rfl #[] rfl (by (try simp only [List.map_toArray, List.map_cons, List.map_nil]); first | done | rfl | (simp only [List.length_drop, List.length_take]; rfl)) ?_; (with_reducible refine (isoglosslaw20_awake.calls k  true _ A3.out).mono ?_); rintro e w138 ⟨rfl, hb⟩; refine ⟨_, rfl, ?_⟩; have n0_ := Aside0.mk (below_step (by repeat (first | (with_reducible first | exact HB.out | apply below_alloc | apply pw_below_drewN | apply below_drew1) | exact HB.out)) hb); clear HB; have HB := n0_; clear n0_; (try clear hb); (try clear hb2); (try clear hk); (try clear hi)) | ((with_reducible refine gate_callee (f := 10) rfl ?_); refine goesL_ (some 11) rfl rfl Try.func10 (by kernel_rfl) rfl #[.string a0] rfl (by (try simp only [List.map_toArray, List.map_cons, List.map_nil]); first | done | rfl | (simp only [List.length_drop, List.length_take]; rfl)) ?_; (with_reducible refine (isoglosslaw20_short.calls a0 t268 _ A4.out).mono ?_); rintro e w' ⟨rfl, ⟨nd, rfl⟩⟩; refine ⟨_, rfl, ?_⟩) | ((with_reducible refine gate_callee (f := 10) rfl ?_); refine goesL_ (some 13) rfl rfl Try.func10 (by kernel_rfl) rfl #[.string a1] rfl (by (try simp only [List.map_toArray, List.map_cons, List.map_nil]); first | done | rfl | (simp only [List.length_drop, List.length_take]; rfl)) ?_; (with_reducible refine (isoglosslaw20_short.calls a1 t269 _ A5.out).mono ?_); rintro e w' ⟨rfl, ⟨nd, rfl⟩⟩; refine ⟨_, rfl, ?_⟩) | ((with_reducible refine gate_callee (f := 16) rfl ?_); refine goesL_ (some 15) rfl rfl Try.func16 (by kernel_rfl) rfl #[.string t268] rfl (by (try simp only [List.map_toArray, List.map_cons, List.map_nil]); first | done | rfl | (simp only [List.length_drop, List.length_take]; rfl)) ?_; (with_reducible refine (isoglossref04_Split.calls k t268 t270 _ A6.out).mono ?_); rintro e w139 ⟨v271, rfl, ho0, hb⟩; refine ⟨_, rfl, ?_⟩; have n0_ := Aside0.mk (Kd.R_lower ho0 (below_size (by repeat (first | (with_reducible first | exact HB.out | apply below_alloc | apply pw_below_drewN | apply below_drew1) | exact HB.out)))); have n1_ := Aside0.mk (below_step (by repeat (first | (with_reducible first | exact HB.out | apply below_alloc | apply pw_below_drewN | apply below_drew1) | exact HB.out)) hb); clear HB; have HO272 := n0_; have HB := n1_; clear n0_ n1_; (try clear hb); (try clear hb2); (try clear hk); (try clear hi); (try clear ho0)))
        have n0_ := Aside0.mk (Kd.R_drew HO272.out)
        have n1_ := Aside0.mk (below_drew1 HB.out)
        clear HO272
        clear HB
        have HO272 := n0_
        have HB := n1_
        clear n0_ n1_
        obtain ⟨Ao141, co141, eo141⟩ := Kd.R_slice HO272.out
        (first | subst eo141 | (injection eo141 with f1_ f2_ f3_; have f4_ := f1_.symm; have f5_ := f3_.symm; clear f1_ f2_ f3_; subst f4_; subst f5_))
        have p273 : 0 ≤ (0 : Int) := (by omega)
        have q273 : 0 < (t270.length : Int) := of_decide_eq_true (by first | (with_reducible assumption) | assumption)
        obtain ⟨ad273, e273, hx273_0⟩ := Kd.at_string (Kd.R_reads' HO272.out).2.2 0 p273 q273
        cases e273
        have qi273 : (0 < t270.length) = True := eq_true (by omega)
        (try rw [show ((0 : Int)).toNat = 0 from rfl] at hx273_0)
        (try rw [Addr.add_zero'] at hx273_0)
        replace p273 := eq_true p273
        replace q273 := eq_true q273
        have q142 : (1 : Int) ≤ ((t270.length : Int) : Int) := of_decide_eq_true (by first | (with_reducible assumption) | assumption)
        obtain ⟨i0142, hi0142, _, hsz142, _⟩ := info_parts info9
        have hroom142 : t270.length ≤ co141 := (Kd.R_reads' HO272.out).2.1
        have hC142 : Kd.C Kd.string _ (some ad273) t270.length t270 := (Kd.R_reads' HO272.out).2.2
        have hcut142 := cut_from (P := Try.prog) 25 9 .i64 Try.underlying25 hi0142 1 hsz142 (some ad273) t270.length co141 1 (by omega) q142
        have hr142 := Kd.C_drop (m := (1 : Int).toNat) (c := co141) hC142 (by omega) hroom142
        obtain ⟨A142, hA142⟩ : ∃ A1, A1 = (if co141 = (1 : Int).toNat then (some ad273) else ((some ad273) : Option Addr).map (·.add ((1 : Int).toNat * 1))) := ⟨_, rfl⟩
        obtain ⟨c142, hc142⟩ : ∃ c1, c1 = co141 - (1 : Int).toNat := ⟨_, rfl⟩
        have hy142 : y277.length = t270.length - (1 : Int).toNat := (by rw [Ny277.out, List.length_drop] <;> omega)
        rw [show (t270).drop (1 : Int).toNat = y277 from Ny277.out.symm] at hr142
        replace hr142 : Kd.C Kd.string _ A142 y277.length y277 := (by rw [hA142]; exact hr142)
        rw [← hy142, ← hA142, ← hc142] at hcut142
        have HR280 := Aside0.mk hr142
        have HC280 := Aside0.mk (show y277.length ≤ c142 from by rw [hy142, hc142]; exact Nat.sub_le_sub_right hroom142 _)
        clear hr142 hC142 hroom142 hi0142 hsz142 hc142
        have KY142 := Aside0.mk hy142
        have KA142 := Aside0.mk hA142
        clear hy142 hA142
        have KL142 := Aside0.mk (show 1 ≤ t270.length from by omega)
        replace q142 := eq_true q142
        refine start_ (n := 8) (S := fun w' => w'.cell? ad273 = some (.string (rdOf ByteArray.empty t270 0))) (ds := [6]) #[false, false, false, false, false, false, false, false] (by kernel_rfl) rfl rfl (hx273_0) (fun hHeld => ?_); refine with_tabW isoglosslaw20_FilterMore.tab5 isoglosslaw20_FilterMore.bits5 (fun HT_ HW_ => ?_)
        generalize w139.drew = w140 at HO272 HB HR280 hx273_0 hHeld ⊢
        refine pure_ (i := 0) (N := some 16) (v := ?_) (a' := ?_) #[true, false, false, false, false, false, false, false] rfl rfl (any_of HT_.out (by kernel_rfl)) (fun _ _ _ h => h) (Or.inl ⟨by rfl, ?_⟩) ?_ ?_
        rotate_left
        ·intro w'
         go_simp
         with_reducible rfl
        rotate_left
        ·simp only [Act.put, List.setIfInBounds_toArray, List.set_cons_zero, List.set_cons_succ, i64_w, i32_w]
         rfl
        refine pure_ (i := 1) (N := some 17) (v := ?_) (a' := ?_) #[true, true, false, false, false, false, false, false] rfl rfl (any_of HT_.out (by kernel_rfl)) (fun _ _ _ h => h) (Or.inl ⟨by rfl, ?_⟩) ?_ ?_
        rotate_left
        ·intro w'
         go_simp
         with_reducible rfl
        rotate_left
        ·simp only [Act.put, List.setIfInBounds_toArray, List.set_cons_zero, List.set_cons_succ, i64_w, i32_w]
         rfl
        refine pure_ (i := 4) (N := some 20) (v := ?_) (a' := ?_) #[true, true, false, false, true, false, false, false] rfl rfl (any_of HT_.out (by kernel_rfl)) (fun _ _ _ h => h) (Or.inl ⟨by rfl, ?_⟩) ?_ ?_
        rotate_left
        ·intro w'
         go_simp
         with_reducible rfl
        rotate_left
        ·simp only [Act.put, List.setIfInBounds_toArray, List.set_cons_zero, List.set_cons_succ, i64_w, i32_w]
         rfl
        refine pure_ (i := 5) (N := some 21) (v := ?_) (a' := ?_) #[true, true, false, false, true, true, false, false] rfl rfl (any_of HT_.out (by kernel_rfl)) (fun _ _ _ h => h) (Or.inl ⟨by rfl, ?_⟩) ?_ ?_
        rotate_left
        ·intro w'
         go_simp
         with_reducible rfl
        rotate_left
        ·simp only [Act.put, List.setIfInBounds_toArray, List.set_cons_zero, List.set_cons_succ, i64_w, i32_w]
         rfl
        refine take_ (i := 2) (N := some 18) (v := ?_) (a' := ?_) #[true, true, true, false, true, true, false, false] rfl rfl (take_ofW HT_.out HW_.out (by kernel_rfl)) (fun _ _ _ h => h) (Or.inl ⟨by rfl, ?_⟩) hHeld ?_ ?_
        rotate_left
        ·intro w' s0
         go_simp
         with_reducible rfl
        rotate_left
        ·simp only [Act.put, List.setIfInBounds_toArray, List.set_cons_zero, List.set_cons_succ, i64_w, i32_w]
         rfl
        refine one_ (i := 3) (N := some 19) #[true, true, true, true, true, true, false, false] rfl rfl (one_of HT_.out (by kernel_rfl)) (by decide) (fun K hK => ?_)
        refine Kd.R_lit_step Kd.string _ 9 ?hg (N := 19) ?hd (xs := ([rdOf ByteArray.empty t270 0, (⟨#[42]⟩ : ByteArray)] : List ByteArray)) (inner := [.string (rdOf ByteArray.empty t270 0), .string (⟨#[42]⟩ : ByteArray)]) (ok := fun _ => True) (okp := fun _ => True) ?hr ?hp (fun _ hk => hk) trivial (Below.refl _ _) (Nat.le_refl _) (by simp) ?_; (case hd => rfl); (case hg => rfl); (case hr => first | (go_simp; done) | (go_simp; rfl)); (case hp => exact (Reps.one (show Kd.M Kd.string _ _ _ (rdOf ByteArray.empty t270 0) [.string (rdOf ByteArray.empty t270 0)] from rfl) (Reps.one (show Kd.M Kd.string _ _ _ (⟨#[42]⟩ : ByteArray) [.string (⟨#[42]⟩ : ByteArray)] from rfl) (Reps.none _ _))))
        intro v275 w143 ho144 hb hg_ hnew_
        have HS0_ := (hb.cell (World.block_lt_of_cell? _ _ (hHeld))).trans (hHeld)
        clear hg_ hnew_
        (first | rw [← Ny274.out] at ho144 | (simp only [Int.reduceToNat] at ho144; rw [← Ny274.out] at ho144))
        have n0_ := Aside0.mk (Kd.R_elder' (by (with_reducible repeat (first | apply Kd.R_alloc | apply Kd.R_drewN | apply Kd.R_drew)); exact HO272.out) (Kd.R_base ho144) hb)
        have n1_ := Aside0.mk (Kd.R_lower (Kd.R_new' ho144 (Kd.R_lt (by (with_reducible repeat (first | apply Kd.R_alloc | apply Kd.R_drewN | apply Kd.R_drew)); exact HO272.out))) (below_size (by repeat (first | (with_reducible first | exact HB.out | apply below_alloc | apply pw_below_drewN | apply below_drew1) | exact HB.out))))
        have n2_ := Aside0.mk (Kd.C_below (by repeat (first | (with_reducible exact HR280.out) | (with_reducible refine Kd.C_alloc ?_ _) | (with_reducible refine Kd.C_drewN ?_ _) | (with_reducible refine Kd.C_drew ?_) | exact HR280.out)) hb)
        have n3_ := Aside0.mk (below_step (by repeat (first | (with_reducible first | exact HB.out | apply below_alloc | apply pw_below_drewN | apply below_drew1) | exact HB.out)) hb)
        clear HO272
        clear HR280
        clear HB
        have HO272 := n0_
        have HO276 := n1_
        have HR280 := n2_
        have HB := n3_
        clear n0_ n1_ n2_ n3_
        clear hb ho144
        refine hK.out _ _ (HS0_) (fun hHeld => ?_)
        clear hK K
        refine norm_ (a' := ?_) ?_ ?_
        rotate_left
        ·show Act.put _ (some 19) _ = _
         simp only [Act.put, List.setIfInBounds_toArray, List.set_cons_zero, List.set_cons_succ, i64_w, i32_w]
         rfl
        refine last_ (i := 6) (N := some 22) #[true, true, true, true, true, true, true, false] rfl rfl (one_of HT_.out (by kernel_rfl)) (by decide) (fun K hK => ?_)
        refine Kd.R_append_rows_step Kd.string (w0 := w) w.heap.size (by rfl) (.tmp 19) (.tmp 21) 25 9 (.string ⟨#[]⟩) 16 rfl Try.underlying25 info9 rfl (by decide) (by omega) v275 y274 y277 _ _ _ (fun k_ => some k_ ≠ (.slice (some ad273) t270.length co141 : Value).ownBlock) (fun _ => False) rfl rfl ?aO ?aR (fun _ _ h => h) (fun _ h => h.elim) ?aF ?aB ?aS ?aL ?_
        (case aR => repeat (first | exact (by repeat (first | (with_reducible exact HR280.out) | (with_reducible refine Kd.C_alloc ?_ _) | (with_reducible refine Kd.C_drewN ?_ _) | (with_reducible refine Kd.C_drew ?_) | exact HR280.out)) | (with_reducible refine Kd.C_alloc ?_ _) | (with_reducible refine Kd.C_drewN ?_ _) | (with_reducible refine Kd.C_drew ?_)))
        (case aB => exact (by repeat (first | (with_reducible first | exact HB.out | apply below_alloc | apply pw_below_drewN | apply below_drew1) | exact HB.out)))
        (case aF => exact (fun k_ hk => Kd.fresh' (Kd.R_lt (by (with_reducible repeat (first | apply Kd.R_alloc | apply Kd.R_drewN | apply Kd.R_drew)); exact HO272.out)) k_ hk))
        (case aO => exact (by (with_reducible repeat (first | apply Kd.R_alloc | apply Kd.R_drewN | apply Kd.R_drew)); exact Kd.R_mono HO276.out (fun _ hk => hk.2)))
        (case aS => exact (below_size (by repeat (first | (with_reducible first | exact HB.out | apply below_alloc | apply pw_below_drewN | apply below_drew1) | exact HB.out))))
        (case aL => have := LMc9.out; omega)
        intro v282 w145 ho hb hg hat
        rw [← Ny281.out] at ho
        have n0_ := Aside0.mk (Kd.R_after (ok := (fun _ => True)) (by (with_reducible repeat (first | apply Kd.R_alloc | apply Kd.R_drewN | apply Kd.R_drew)); exact HO272.out) hg hat)
        have n1_ := Aside0.mk (hb)
        have n2_ := Aside0.mk ((show Kd.C Kd.string w145 A142 y277.length y277 from by rw [Ny277.out, KA142.out]; exact Kd.C_drop (m := 1) (c := co141) ((Kd.R_reads' (Kd.R_after (ok := (fun _ => True)) (by (with_reducible repeat (first | apply Kd.R_alloc | apply Kd.R_drewN | apply Kd.R_drew)); exact HO272.out) hg hat)).2.2) KL142.out ((Kd.R_reads' (Kd.R_after (ok := (fun _ => True)) (by (with_reducible repeat (first | apply Kd.R_alloc | apply Kd.R_drewN | apply Kd.R_drew)); exact HO272.out) hg hat)).2.1)))
        have n3_ := Aside0.mk (ho)
        clear HO272
        clear HB
        clear HR280
        clear HO276
        have HO272 := n0_
        have HB := n1_
        have HR280 := n2_
        have HO283 := n3_
        clear n0_ n1_ n2_ n3_
        clear ho hb hg hat
        refine hK.out _ _ ?_
        clear hK K
        refine norm_ (a' := ?_) ?_ ?_
        rotate_left
        ·show Act.put _ (some 22) _ = _
         simp only [Act.put, List.setIfInBounds_toArray, List.set_cons_zero, List.set_cons_succ, i64_w, i32_w]
         rfl
        refine pure_ (i := 7) (N := some 7) (v := ?_) (a' := ?_) #[true, true, true, true, true, true, true, true] rfl rfl (any_of HT_.out (by kernel_rfl)) (fun _ _ _ h => h) (Or.inl ⟨by rfl, ?_⟩) ?_ ?_
        rotate_left
        ·intro w'
         go_simp
         with_reducible rfl
        rotate_left
        ·simp only [Act.put, List.setIfInBounds_toArray, List.set_cons_zero, List.set_cons_succ, i64_w, i32_w]
         rfl
        refine done_ (done_of HT_.out (by kernel_rfl)) ?_
        try go_wp2_with (first | ((with_reducible refine gate_callee (f := 13) rfl ?_); refine goesL_ (some 25) rfl rfl Try.func13 (by kernel_rfl) rfl #[.string t268, .string t269] rfl (by (try simp only [List.map_toArray, List.map_cons, List.map_nil]); first | done | rfl | (simp only [List.length_drop, List.length_take]; rfl)) ?_; (with_reducible refine (filter_MatchesExtended.calls k t268 t269 t284 _ A10.out).mono ?_); rintro e w146 ⟨rfl, hb⟩; refine ⟨_, rfl, ?_⟩; have n0_ := Aside0.mk (Kd.R_below (by (with_reducible repeat (first | apply Kd.R_alloc | apply Kd.R_drewN | apply Kd.R_drew)); exact HO272.out) hb); have n1_ := Aside0.mk (Kd.R_below (by (with_reducible repeat (first | apply Kd.R_alloc | apply Kd.R_drewN | apply Kd.R_drew)); exact HO283.out) hb); have n2_ := Aside0.mk (Kd.C_below (by repeat (first | (with_reducible exact HR280.out) | (with_reducible refine Kd.C_alloc ?_ _) | (with_reducible refine Kd.C_drewN ?_ _) | (with_reducible refine Kd.C_drew ?_) | exact HR280.out)) hb); have n3_ := Aside0.mk (below_step (by repeat (first | (with_reducible first | exact HB.out | apply below_alloc | apply pw_below_drewN | apply below_drew1) | exact HB.out)) hb); clear HO272; clear HO283; clear HR280; clear HB; have HO272 := n0_; have HO283 := n1_; have HR280 := n2_; have HB := n3_; clear n0_ n1_ n2_ n3_; (try clear hb); (try clear hb2); (try clear hk); (try clear hi)) | (go_at_call 12; (with_reducible refine (filter_Matches.calls k t268 t269 false _ A12.out).mono ?_); rintro e w147 ⟨rfl, hb⟩; have n0_ := Aside0.mk (Kd.R_below (by (with_reducible repeat (first | apply Kd.R_alloc | apply Kd.R_drewN | apply Kd.R_drew)); exact HO272.out) hb); have n1_ := Aside0.mk (Kd.R_below (by (with_reducible repeat (first | apply Kd.R_alloc | apply Kd.R_drewN | apply Kd.R_drew)); exact HO283.out) hb); have n2_ := Aside0.mk (Kd.C_below (by repeat (first | (with_reducible exact HR280.out) | (with_reducible refine Kd.C_alloc ?_ _) | (with_reducible refine Kd.C_drewN ?_ _) | (with_reducible refine Kd.C_drew ?_) | exact HR280.out)) hb); have n3_ := Aside0.mk (below_step (by repeat (first | (with_reducible first | exact HB.out | apply below_alloc | apply pw_below_drewN | apply below_drew1) | exact HB.out)) hb); clear HO272; clear HO283; clear HR280; clear HB; have HO272 := n0_; have HO283 := n1_; have HR280 := n2_; have HB := n3_; clear n0_ n1_ n2_ n3_; (try clear hb); (try clear hb2); (try clear hk); (try clear hi)) | (go_at_call 13; (with_reducible refine (filter_MatchesExtended.calls k (t268 ++ (⟨#[45, 42]⟩ : ByteArray)) t269 t291 _ A88.out).mono ?_); rintro e w148 ⟨rfl, hb⟩; have n0_ := Aside0.mk (Kd.R_below (by (with_reducible repeat (first | apply Kd.R_alloc | apply Kd.R_drewN | apply Kd.R_drew)); exact HO272.out) hb); have n1_ := Aside0.mk (Kd.R_below (by (with_reducible repeat (first | apply Kd.R_alloc | apply Kd.R_drewN | apply Kd.R_drew)); exact HO283.out) hb); have n2_ := Aside0.mk (Kd.C_below (by repeat (first | (with_reducible exact HR280.out) | (with_reducible refine Kd.C_alloc ?_ _) | (with_reducible refine Kd.C_drewN ?_ _) | (with_reducible refine Kd.C_drew ?_) | exact HR280.out)) hb); have n3_ := Aside0.mk (below_step (by repeat (first | (with_reducible first | exact HB.out | apply below_alloc | apply pw_below_drewN | apply below_drew1) | exact HB.out)) hb); clear HO272; clear HO283; clear HR280; clear HB; have HO272 := n0_; have HO283 := n1_; have HR280 := n2_; have HB := n3_; clear n0_ n1_ n2_ n3_; (try clear hb); (try clear hb2); (try clear hk); (try clear hi)))
        go_ret
        exact ⟨by first | rfl | (simp [errW_none, errW_some] <;> rfl) | (simp [*, errW_none, errW_some] <;> rfl), by repeat (first | (with_reducible first | exact HB.out | apply below_alloc | apply pw_below_drewN | apply below_drew1) | exact HB.out)⟩
      ·rw [if_neg c87] at H
       exact absurd H (by simp)
    ·replace c11 := Bool.eq_false_iff.mpr c11
     subst c11
     have H1 : (some false) = some r := by rw [if_neg (show ¬ (false = true) by decide)] at H; exact H
     clear H
     have H := H1
     clear H1
     obtain rfl := Option.some.inj H
     go_enter Try.func5, Try.ntmps5
     try go_wp2_with (first | ((with_reducible refine gate_callee (f := 9) rfl ?_); refine goesL_ (some 9) rfl rfl Try.func9 (by kernel_rfl) rfl #[] rfl (by (try simp only [List.map_toArray, List.map_cons, List.map_nil]); first | done | rfl | (simp only [List.length_drop, List.length_take]; rfl)) ?_; (with_reducible refine (isoglosslaw20_awake.calls k  false _ A3.out).mono ?_); rintro e w149 ⟨rfl, hb⟩; refine ⟨_, rfl, ?_⟩; have n0_ := Aside0.mk (below_step (by repeat (first | (with_reducible first | exact HB.out | apply below_alloc | apply pw_below_drewN | apply below_drew1) | exact HB.out)) hb); clear HB; have HB := n0_; clear n0_; (try clear hb); (try clear hb2); (try clear hk); (try clear hi)) | ((with_reducible refine gate_callee (f := 10) rfl ?_); refine goesL_ (some 11) rfl rfl Try.func10 (by kernel_rfl) rfl #[.string a0] rfl (by (try simp only [List.map_toArray, List.map_cons, List.map_nil]); first | done | rfl | (simp only [List.length_drop, List.length_take]; rfl)) ?_; (with_reducible refine (isoglosslaw20_short.calls a0 t268 _ A4.out).mono ?_); rintro e w' ⟨rfl, ⟨nd, rfl⟩⟩; refine ⟨_, rfl, ?_⟩) | ((with_reducible refine gate_callee (f := 10) rfl ?_); refine goesL_ (some 13) rfl rfl Try.func10 (by kernel_rfl) rfl #[.string a1] rfl (by (try simp only [List.map_toArray, List.map_cons, List.map_nil]); first | done | rfl | (simp only [List.length_drop, List.length_take]; rfl)) ?_; (with_reducible refine (isoglosslaw20_short.calls a1 t269 _ A5.out).mono ?_); rintro e w' ⟨rfl, ⟨nd, rfl⟩⟩; refine ⟨_, rfl, ?_⟩) | ((with_reducible refine gate_callee (f := 16) rfl ?_); refine goesL_ (some 15) rfl rfl Try.func16 (by kernel_rfl) rfl #[.string t268] rfl (by (try simp only [List.map_toArray, List.map_cons, List.map_nil]); first | done | rfl | (simp only [List.length_drop, List.length_take]; rfl)) ?_; (with_reducible refine (isoglossref04_Split.calls k t268 t270 _ A6.out).mono ?_); rintro e w150 ⟨v271, rfl, ho0, hb⟩; refine ⟨_, rfl, ?_⟩; have n0_ := Aside0.mk (Kd.R_lower ho0 (below_size (by repeat (first | (with_reducible first | exact HB.out | apply below_alloc | apply pw_below_drewN | apply below_drew1) | exact HB.out)))); have n1_ := Aside0.mk (below_step (by repeat (first | (with_reducible first | exact HB.out | apply below_alloc | apply pw_below_drewN | apply below_drew1) | exact HB.out)) hb); clear HB; have HO272 := n0_; have HB := n1_; clear n0_ n1_; (try clear hb); (try clear hb2); (try clear hk); (try clear hi); (try clear ho0)))
     have n0_ := Aside0.mk (Kd.R_drew HO272.out)
     have n1_ := Aside0.mk (below_drew1 HB.out)
     clear HO272
     clear HB
     have HO272 := n0_
     have HB := n1_
     clear n0_ n1_
     obtain ⟨Ao152, co152, eo152⟩ := Kd.R_slice HO272.out
     (first | subst eo152 | (injection eo152 with f1_ f2_ f3_; have f4_ := f1_.symm; have f5_ := f3_.symm; clear f1_ f2_ f3_; subst f4_; subst f5_))
     have p273 : 0 ≤ (0 : Int) := (by omega)
     have q273 : 0 < (t270.length : Int) := of_decide_eq_true (by first | (with_reducible assumption) | assumption)
     obtain ⟨ad273, e273, hx273_0⟩ := Kd.at_string (Kd.R_reads' HO272.out).2.2 0 p273 q273
     cases e273
     have qi273 : (0 < t270.length) = True := eq_true (by omega)
     (try rw [show ((0 : Int)).toNat = 0 from rfl] at hx273_0)
     (try rw [Addr.add_zero'] at hx273_0)
     replace p273 := eq_true p273
     replace q273 := eq_true q273
     have q153 : (1 : Int) ≤ ((t270.length : Int) : Int) := of_decide_eq_true (by first | (with_reducible assumption) | assumption)
     obtain ⟨i0153, hi0153, _, hsz153, _⟩ := info_parts info9
     have hroom153 : t270.length ≤ co152 := (Kd.R_reads' HO272.out).2.1
     have hC153 : Kd.C Kd.string _ (some ad273) t270.length t270 := (Kd.R_reads' HO272.out).2.2
     have hcut153 := cut_from (P := Try.prog) 25 9 .i64 Try.underlying25 hi0153 1 hsz153 (some ad273) t270.length co152 1 (by omega) q153
     have hr153 := Kd.C_drop (m := (1 : Int).toNat) (c := co152) hC153 (by omega) hroom153
     obtain ⟨A153, hA153⟩ : ∃ A1, A1 = (if co152 = (1 : Int).toNat then (some ad273) else ((some ad273) : Option Addr).map (·.add ((1 : Int).toNat * 1))) := ⟨_, rfl⟩
     obtain ⟨c153, hc153⟩ : ∃ c1, c1 = co152 - (1 : Int).toNat := ⟨_, rfl⟩
     have hy153 : y277.length = t270.length - (1 : Int).toNat := (by rw [Ny277.out, List.length_drop] <;> omega)
     rw [show (t270).drop (1 : Int).toNat = y277 from Ny277.out.symm] at hr153
     replace hr153 : Kd.C Kd.string _ A153 y277.length y277 := (by rw [hA153]; exact hr153)
     rw [← hy153, ← hA153, ← hc153] at hcut153
     have HR280 := Aside0.mk hr153
     have HC280 := Aside0.mk (show y277.length ≤ c153 from by rw [hy153, hc153]; exact Nat.sub_le_sub_right hroom153 _)
     clear hr153 hC153 hroom153 hi0153 hsz153 hc153
     have KY153 := Aside0.mk hy153
     have KA153 := Aside0.mk hA153
     clear hy153 hA153
     have KL153 := Aside0.mk (show 1 ≤ t270.length from by omega)
     replace q153 := eq_true q153
     refine start_ (n := 8) (S := fun w' => w'.cell? ad273 = some (.string (rdOf ByteArray.empty t270 0))) (ds := [6]) #[false, false, false, false, false, false, false, false] (by kernel_rfl) rfl rfl (hx273_0) (fun hHeld => ?_); refine with_tabW isoglosslaw20_FilterMore.tab5 isoglosslaw20_FilterMore.bits5 (fun HT_ HW_ => ?_)
     generalize w150.drew = w151 at HO272 HB HR280 hx273_0 hHeld ⊢
     refine pure_ (i := 0) (N := some 16) (v := ?_) (a' := ?_) #[true, false, false, false, false, false, false, false] rfl rfl (any_of HT_.out (by kernel_rfl)) (fun _ _ _ h => h) (Or.inl ⟨by rfl, ?_⟩) ?_ ?_
     rotate_left
     ·intro w'
      go_simp
      with_reducible rfl
     rotate_left
     ·simp only [Act.put, List.setIfInBounds_toArray, List.set_cons_zero, List.set_cons_succ, i64_w, i32_w]
      rfl
     refine pure_ (i := 1) (N := some 17) (v := ?_) (a' := ?_) #[true, true, false, false, false, false, false, false] rfl rfl (any_of HT_.out (by kernel_rfl)) (fun _ _ _ h => h) (Or.inl ⟨by rfl, ?_⟩) ?_ ?_
     rotate_left
     ·intro w'
      go_simp
      with_reducible rfl
     rotate_left
     ·simp only [Act.put, List.setIfInBounds_toArray, List.set_cons_zero, List.set_cons_succ, i64_w, i32_w]
      rfl
     refine pure_ (i := 4) (N := some 20) (v := ?_) (a' := ?_) #[true, true, false, false, true, false, false, false] rfl rfl (any_of HT_.out (by kernel_rfl)) (fun _ _ _ h => h) (Or.inl ⟨by rfl, ?_⟩) ?_ ?_
     rotate_left
     ·intro w'
      go_simp
      with_reducible rfl
     rotate_left
     ·simp only [Act.put, List.setIfInBounds_toArray, List.set_cons_zero, List.set_cons_succ, i64_w, i32_w]
      rfl
     refine pure_ (i := 5) (N := some 21) (v := ?_) (a' := ?_) #[true, true, false, false, true, true, false, false] rfl rfl (any_of HT_.out (by kernel_rfl)) (fun _ _ _ h => h) (Or.inl ⟨by rfl, ?_⟩) ?_ ?_
     rotate_left
     ·intro w'
      go_simp
      with_reducible rfl
     rotate_left
     ·simp only [Act.put, List.setIfInBounds_toArray, List.set_cons_zero, List.set_cons_succ, i64_w, i32_w]
      rfl
     refine take_ (i := 2) (N := some 18) (v := ?_) (a' := ?_) #[true, true, true, false, true, true, false, false] rfl rfl (take_ofW HT_.out HW_.out (by kernel_rfl)) (fun _ _ _ h => h) (Or.inl ⟨by rfl, ?_⟩) hHeld ?_ ?_
     rotate_left
     ·intro w' s0
      go_simp
      with_reducible rfl
     rotate_left
     ·simp only [Act.put, List.setIfInBounds_toArray, List.set_cons_zero, List.set_cons_succ, i64_w, i32_w]
      rfl
     refine one_ (i := 3) (N := some 19) #[true, true, true, true, true, true, false, false] rfl rfl (one_of HT_.out (by kernel_rfl)) (by decide) (fun K hK => ?_)
     refine Kd.R_lit_step Kd.string _ 9 ?hg (N := 19) ?hd (xs := ([rdOf ByteArray.empty t270 0, (⟨#[42]⟩ : ByteArray)] : List ByteArray)) (inner := [.string (rdOf ByteArray.empty t270 0), .string (⟨#[42]⟩ : ByteArray)]) (ok := fun _ => True) (okp := fun _ => True) ?hr ?hp (fun _ hk => hk) trivial (Below.refl _ _) (Nat.le_refl _) (by simp) ?_; (case hd => rfl); (case hg => rfl); (case hr => first | (go_simp; done) | (go_simp; rfl)); (case hp => exact (Reps.one (show Kd.M Kd.string _ _ _ (rdOf ByteArray.empty t270 0) [.string (rdOf ByteArray.empty t270 0)] from rfl) (Reps.one (show Kd.M Kd.string _ _ _ (⟨#[42]⟩ : ByteArray) [.string (⟨#[42]⟩ : ByteArray)] from rfl) (Reps.none _ _))))
     intro v275 w154 ho155 hb hg_ hnew_
     have HS0_ := (hb.cell (World.block_lt_of_cell? _ _ (hHeld))).trans (hHeld)
     clear hg_ hnew_
     (first | rw [← Ny274.out] at ho155 | (simp only [Int.reduceToNat] at ho155; rw [← Ny274.out] at ho155))
     have n0_ := Aside0.mk (Kd.R_elder' (by (with_reducible repeat (first | apply Kd.R_alloc | apply Kd.R_drewN | apply Kd.R_drew)); exact HO272.out) (Kd.R_base ho155) hb)
     have n1_ := Aside0.mk (Kd.R_lower (Kd.R_new' ho155 (Kd.R_lt (by (with_reducible repeat (first | apply Kd.R_alloc | apply Kd.R_drewN | apply Kd.R_drew)); exact HO272.out))) (below_size (by repeat (first | (with_reducible first | exact HB.out | apply below_alloc | apply pw_below_drewN | apply below_drew1) | exact HB.out))))
     have n2_ := Aside0.mk (Kd.C_below (by repeat (first | (with_reducible exact HR280.out) | (with_reducible refine Kd.C_alloc ?_ _) | (with_reducible refine Kd.C_drewN ?_ _) | (with_reducible refine Kd.C_drew ?_) | exact HR280.out)) hb)
     have n3_ := Aside0.mk (below_step (by repeat (first | (with_reducible first | exact HB.out | apply below_alloc | apply pw_below_drewN | apply below_drew1) | exact HB.out)) hb)
     clear HO272
     clear HR280
     clear HB
     have HO272 := n0_
     have HO276 := n1_
     have HR280 := n2_
     have HB := n3_
     clear n0_ n1_ n2_ n3_
     clear hb ho155
     refine hK.out _ _ (HS0_) (fun hHeld => ?_)
     clear hK K
     refine norm_ (a' := ?_) ?_ ?_
     rotate_left
     ·show Act.put _ (some 19) _ = _
      simp only [Act.put, List.setIfInBounds_toArray, List.set_cons_zero, List.set_cons_succ, i64_w, i32_w]
      rfl
     refine last_ (i := 6) (N := some 22) #[true, true, true, true, true, true, true, false] rfl rfl (one_of HT_.out (by kernel_rfl)) (by decide) (fun K hK => ?_)
     refine Kd.R_append_rows_step Kd.string (w0 := w) w.heap.size (by rfl) (.tmp 19) (.tmp 21) 25 9 (.string ⟨#[]⟩) 16 rfl Try.underlying25 info9 rfl (by decide) (by omega) v275 y274 y277 _ _ _ (fun k_ => some k_ ≠ (.slice (some ad273) t270.length co152 : Value).ownBlock) (fun _ => False) rfl rfl ?aO ?aR (fun _ _ h => h) (fun _ h => h.elim) ?aF ?aB ?aS ?aL ?_
     (case aR => repeat (first | exact (by repeat (first | (with_reducible exact HR280.out) | (with_reducible refine Kd.C_alloc ?_ _) | (with_reducible refine Kd.C_drewN ?_ _) | (with_reducible refine Kd.C_drew ?_) | exact HR280.out)) | (with_reducible refine Kd.C_alloc ?_ _) | (with_reducible refine Kd.C_drewN ?_ _) | (with_reducible refine Kd.C_drew ?_)))
     (case aB => exact (by repeat (first | (with_reducible first | exact HB.out | apply below_alloc | apply pw_below_drewN | apply below_drew1) | exact HB.out)))
     (case aF => exact (fun k_ hk => Kd.fresh' (Kd.R_lt (by (with_reducible repeat (first | apply Kd.R_alloc | apply Kd.R_drewN | apply Kd.R_drew)); exact HO272.out)) k_ hk))
     (case aO => exact (by (with_reducible repeat (first | apply Kd.R_alloc | apply Kd.R_drewN | apply Kd.R_drew)); exact Kd.R_mono HO276.out (fun _ hk => hk.2)))
     (case aS => exact (below_size (by repeat (first | (with_reducible first | exact HB.out | apply below_alloc | apply pw_below_drewN | apply below_drew1) | exact HB.out))))
     (case aL => have := LMc9.out; omega)
     intro v282 w156 ho hb hg hat
     rw [← Ny281.out] at ho
     have n0_ := Aside0.mk (Kd.R_after (ok := (fun _ => True)) (by (with_reducible repeat (first | apply Kd.R_alloc | apply Kd.R_drewN | apply Kd.R_drew)); exact HO272.out) hg hat)
     have n1_ := Aside0.mk (hb)
     have n2_ := Aside0.mk ((show Kd.C Kd.string w156 A153 y277.length y277 from by rw [Ny277.out, KA153.out]; exact Kd.C_drop (m := 1) (c := co152) ((Kd.R_reads' (Kd.R_after (ok := (fun _ => True)) (by (with_reducible repeat (first | apply Kd.R_alloc | apply Kd.R_drewN | apply Kd.R_drew)); exact HO272.out) hg hat)).2.2) KL153.out ((Kd.R_reads' (Kd.R_after (ok := (fun _ => True)) (by (with_reducible repeat (first | apply Kd.R_alloc | apply Kd.R_drewN | apply Kd.R_drew)); exact HO272.out) hg hat)).2.1)))
     have n3_ := Aside0.mk (ho)
     clear HO272
     clear HB
     clear HR280
     clear HO276
     have HO272 := n0_
     have HB := n1_
     have HR280 := n2_
     have HO283 := n3_
     clear n0_ n1_ n2_ n3_
     clear ho hb hg hat
     refine hK.out _ _ ?_
     clear hK K
     refine norm_ (a' := ?_) ?_ ?_
     rotate_left
     ·show Act.put _ (some 22) _ = _
      simp only [Act.put, List.setIfInBounds_toArray, List.set_cons_zero, List.set_cons_succ, i64_w, i32_w]
      rfl
     refine pure_ (i := 7) (N := some 7) (v := ?_) (a' := ?_) #[true, true, true, true, true, true, true, true] rfl rfl (any_of HT_.out (by kernel_rfl)) (fun _ _ _ h => h) (Or.inl ⟨by rfl, ?_⟩) ?_ ?_
     rotate_left
     ·intro w'
      go_simp
      with_reducible rfl
     rotate_left
     ·simp only [Act.put, List.setIfInBounds_toArray, List.set_cons_zero, List.set_cons_succ, i64_w, i32_w]
      rfl
     refine done_ (done_of HT_.out (by kernel_rfl)) ?_
     try go_wp2_with (first | ((with_reducible refine gate_callee (f := 13) rfl ?_); refine goesL_ (some 25) rfl rfl Try.func13 (by kernel_rfl) rfl #[.string t268, .string t269] rfl (by (try simp only [List.map_toArray, List.map_cons, List.map_nil]); first | done | rfl | (simp only [List.length_drop, List.length_take]; rfl)) ?_; (with_reducible refine (filter_MatchesExtended.calls k t268 t269 t284 _ A10.out).mono ?_); rintro e w157 ⟨rfl, hb⟩; refine ⟨_, rfl, ?_⟩; have n0_ := Aside0.mk (Kd.R_below (by (with_reducible repeat (first | apply Kd.R_alloc | apply Kd.R_drewN | apply Kd.R_drew)); exact HO272.out) hb); have n1_ := Aside0.mk (Kd.R_below (by (with_reducible repeat (first | apply Kd.R_alloc | apply Kd.R_drewN | apply Kd.R_drew)); exact HO283.out) hb); have n2_ := Aside0.mk (Kd.C_below (by repeat (first | (with_reducible exact HR280.out) | (with_reducible refine Kd.C_alloc ?_ _) | (with_reducible refine Kd.C_drewN ?_ _) | (with_reducible refine Kd.C_drew ?_) | exact HR280.out)) hb); have n3_ := Aside0.mk (below_step (by repeat (first | (with_reducible first | exact HB.out | apply below_alloc | apply pw_below_drewN | apply below_drew1) | exact HB.out)) hb); clear HO272; clear HO283; clear HR280; clear HB; have HO272 := n0_; have HO283 := n1_; have HR280 := n2_; have HB := n3_; clear n0_ n1_ n2_ n3_; (try clear hb); (try clear hb2); (try clear hk); (try clear hi)))
     go_ret
     exact ⟨by first | rfl | (simp [errW_none, errW_some] <;> rfl) | (simp [*, errW_none, errW_some] <;> rfl), by repeat (first | (with_reducible first | exact HB.out | apply below_alloc | apply pw_below_drewN | apply below_drew1) | exact HB.out)⟩
   ·rw [if_neg c9] at H
    exact absurd H (by simp)
  ·rw [if_neg c8] at H
   exact absurd H (by simp)
 ·rw [if_neg c7] at H
  exact absurd H (by simp)

/-- THE ONE PURE STATEMENT of isoglosslaw20_FilterMore: yours. -/
def isoglosslaw20_FilterMore.Pure : Prop := ∀ (a0 : ByteArray) (a1 : ByteArray), a0.size ≤ 140737488351232 → a1.size ≤ 140737488351232 → ∃ k, isoglosslaw20_FilterMore.f k a0 a1 = some true
theorem isoglosslaw20_FilterMore.walk (P : isoglosslaw20_FilterMore.Pure) (a0 : ByteArray) (a1 : ByteArray) (w : World) (w0 : a0.size ≤ 140737488351232) (w1 : a1.size ≤ 140737488351232) :
  Calls Try.prog 5 #[.string a0, .string a1] w fun e w' => e = .returned (.bool true) ∧ Below w.heap.size w w' := by
 obtain ⟨k, h⟩ := P a0 a1 w0 w1
 refine (isoglosslaw20_FilterMore.calls k a0 a1 true w h).mono ?_
 rintro e w' ⟨rfl, hd⟩
 exact ⟨rfl, hd⟩

end Go.Proofs.Ytanahbcdilcmoaa.P
