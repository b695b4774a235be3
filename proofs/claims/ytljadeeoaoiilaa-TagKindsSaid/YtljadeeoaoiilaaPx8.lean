-- Written for this claim by the session's own run of the print, functions proved by hand put in.
import Derived.Test.YtljadeeoaoiilaaPx0
import Derived.Test.YtljadeeoaoiilaaPx1
import Derived.Test.YtljadeeoaoiilaaPx4
import Derived.Test.YtljadeeoaoiilaaPx6
import Derived.Test.YtljadeeoaoiilaaPx7
namespace Go.Proofs.Ytljadeeoaoiilaa.P
open Go.RowKit Go.Proofs.YtljadeeoaoiilaaW.PrintWords Go.Proofs.YtljadeeoaoiilaaW.PrintLast Go.Proofs.YtljadeeoaoiilaaW.PrintMore
attribute [local go_sem] max2_int min2_int max_two min_two max_three min_three max_four min_four   -- for this text's walks alone
set_option linter.unusedVariables false
set_option linter.unusedSimpArgs false

/-! ### isoglosslaw06_TagApart: function 6 -/
mutual
def isoglosslaw06_TagApart.j0 : Nat → ByteArray → Bool → Int → Option (Bool)
  | 0, _, _, _ => none
  | k + 1, x0, x3, x4 => (tag_Region.f k x0).bind fun t364 => (if t364 = true then (isoglosslaw06_TagApart.j1 k x0 x3 x4 ((x0.size : Int) == 3)) else (isoglosslaw06_TagApart.j1 k x0 x3 x4 false))
def isoglosslaw06_TagApart.j1 : Nat → ByteArray → Bool → Int → Bool → Option (Bool)
  | 0, _, _, _, _ => none
  | k + 1, x0, x3, x4, x20 => if x20 = true then (isoglosslaw06_TagApart.j2 k x0 x3 (wrap64 (x4 + 1))) else (isoglosslaw06_TagApart.j2 k x0 x3 x4)
def isoglosslaw06_TagApart.j2 : Nat → ByteArray → Bool → Int → Option (Bool)
  | 0, _, _, _ => none
  | k + 1, x0, x3, x4 => (tag_Variant.f k x0).bind fun t365 => (if t365 = true then ((isoglossref02_Class.f k x0).bind fun t366 => (isoglosslaw06_TagApart.j3 k x0 x3 x4 (t366 != 1))) else (isoglosslaw06_TagApart.j3 k x0 x3 x4 false))
def isoglosslaw06_TagApart.j3 : Nat → ByteArray → Bool → Int → Bool → Option (Bool)
  | 0, _, _, _, _ => none
  | k + 1, x0, x3, x4, x29 => if x29 = true then (isoglosslaw06_TagApart.j4 k x0 x3 (wrap64 (x4 + 1))) else (isoglosslaw06_TagApart.j4 k x0 x3 x4)
def isoglosslaw06_TagApart.j4 : Nat → ByteArray → Bool → Int → Option (Bool)
  | 0, _, _, _ => none
  | k + 1, x0, x3, x4 => (tag_Singleton.f k x0).bind fun t367 => (if t367 = true then (isoglosslaw06_TagApart.j5 k x0 x3 (wrap64 (x4 + 1))) else (isoglosslaw06_TagApart.j5 k x0 x3 x4))
def isoglosslaw06_TagApart.j5 : Nat → ByteArray → Bool → Int → Option (Bool)
  | 0, _, _, _ => none
  | k + 1, x0, x3, x4 => (isoglossref04_Sub.f k x0).bind fun t368 => ((tag_Extlang.f k x0).bind fun t369 => (if t369 = true then (isoglosslaw06_TagApart.j6 k x0 x3 x4 t368 true) else ((tag_Script.f k x0).bind fun t370 => (if t370 = true then (isoglosslaw06_TagApart.j6 k x0 x3 x4 t368 true) else ((tag_Region.f k x0).bind fun t371 => (if t371 = true then (isoglosslaw06_TagApart.j6 k x0 x3 x4 t368 true) else ((tag_Variant.f k x0).bind fun t372 => (isoglosslaw06_TagApart.j6 k x0 x3 x4 t368 t372))))))))
def isoglosslaw06_TagApart.j6 : Nat → ByteArray → Bool → Int → Bool → Bool → Option (Bool)
  | 0, _, _, _, _, _ => none
  | k + 1, x0, x3, x4, x5, x6 => if x3 = true then (if x4 ≤ 1 then (if x6 = true then (if x5 = true then ((tag_Extlang.f k x0).bind fun t373 => (if t373 = true then ((tag_Language.f k x0).bind fun t374 => (if t374 = true then ((tag_Script.f k x0).bind fun t375 => (if t375 = true then (some false) else ((tag_Region.f k x0).bind fun t376 => (if t376 = true then (some false) else ((tag_Script.f k x0).bind fun t377 => (if t377 = true then ((tag_Language.f k x0).bind fun t378 => (if t378 = true then ((tag_Variant.f k x0).bind fun t379 => (some (!t379))) else (some false))) else (some true))))))) else (some false))) else ((tag_Script.f k x0).bind fun t380 => (if t380 = true then ((tag_Language.f k x0).bind fun t381 => (if t381 = true then ((tag_Variant.f k x0).bind fun t382 => (some (!t382))) else (some false))) else (some true))))) else (some false)) else (if x4 = 0 then ((tag_Extlang.f k x0).bind fun t383 => (if t383 = true then ((tag_Language.f k x0).bind fun t384 => (if t384 = true then ((tag_Script.f k x0).bind fun t385 => (if t385 = true then (some false) else ((tag_Region.f k x0).bind fun t386 => (if t386 = true then (some false) else ((tag_Script.f k x0).bind fun t387 => (if t387 = true then ((tag_Language.f k x0).bind fun t388 => (if t388 = true then ((tag_Variant.f k x0).bind fun t389 => (some (!t389))) else (some false))) else (some true))))))) else (some false))) else ((tag_Script.f k x0).bind fun t390 => (if t390 = true then ((tag_Language.f k x0).bind fun t391 => (if t391 = true then ((tag_Variant.f k x0).bind fun t392 => (some (!t392))) else (some false))) else (some true))))) else (if x5 = true then ((tag_Extlang.f k x0).bind fun t393 => (if t393 = true then ((tag_Language.f k x0).bind fun t394 => (if t394 = true then ((tag_Script.f k x0).bind fun t395 => (if t395 = true then (some false) else ((tag_Region.f k x0).bind fun t396 => (if t396 = true then (some false) else ((tag_Script.f k x0).bind fun t397 => (if t397 = true then ((tag_Language.f k x0).bind fun t398 => (if t398 = true then ((tag_Variant.f k x0).bind fun t399 => (some (!t399))) else (some false))) else (some true))))))) else (some false))) else ((tag_Script.f k x0).bind fun t400 => (if t400 = true then ((tag_Language.f k x0).bind fun t401 => (if t401 = true then ((tag_Variant.f k x0).bind fun t402 => (some (!t402))) else (some false))) else (some true))))) else (some false)))) else (some false)) else (some false)
end
def isoglosslaw06_TagApart.f (k : Nat) (a0 : ByteArray) : Option (Bool) := (isoglosslaw06_awake.f k).bind fun t361 => ((isoglosslaw06_short.f a0).bind fun t362 => ((tag_Language.f k t362).bind fun t363 => (if t363 = true then (isoglosslaw06_TagApart.j0 k t362 t361 (0 + 1)) else (isoglosslaw06_TagApart.j0 k t362 t361 0))))
theorem isoglosslaw06_TagApart.mono_l : ∀ k, (∀ y0 y1 y2, LeO (isoglosslaw06_TagApart.j0 k y0 y1 y2) (isoglosslaw06_TagApart.j0 (k + 1) y0 y1 y2)) ∧ (∀ y0 y1 y2 y3, LeO (isoglosslaw06_TagApart.j1 k y0 y1 y2 y3) (isoglosslaw06_TagApart.j1 (k + 1) y0 y1 y2 y3)) ∧ (∀ y0 y1 y2, LeO (isoglosslaw06_TagApart.j2 k y0 y1 y2) (isoglosslaw06_TagApart.j2 (k + 1) y0 y1 y2)) ∧ (∀ y0 y1 y2 y3, LeO (isoglosslaw06_TagApart.j3 k y0 y1 y2 y3) (isoglosslaw06_TagApart.j3 (k + 1) y0 y1 y2 y3)) ∧ (∀ y0 y1 y2, LeO (isoglosslaw06_TagApart.j4 k y0 y1 y2) (isoglosslaw06_TagApart.j4 (k + 1) y0 y1 y2)) ∧ (∀ y0 y1 y2, LeO (isoglosslaw06_TagApart.j5 k y0 y1 y2) (isoglosslaw06_TagApart.j5 (k + 1) y0 y1 y2)) ∧ (∀ y0 y1 y2 y3 y4, LeO (isoglosslaw06_TagApart.j6 k y0 y1 y2 y3 y4) (isoglosslaw06_TagApart.j6 (k + 1) y0 y1 y2 y3 y4))
  | 0 => ⟨fun _ _ _ r h => by simp [isoglosslaw06_TagApart.j0] at h, fun _ _ _ _ r h => by simp [isoglosslaw06_TagApart.j1] at h, fun _ _ _ r h => by simp [isoglosslaw06_TagApart.j2] at h, fun _ _ _ _ r h => by simp [isoglosslaw06_TagApart.j3] at h, fun _ _ _ r h => by simp [isoglosslaw06_TagApart.j4] at h, fun _ _ _ r h => by simp [isoglosslaw06_TagApart.j5] at h, fun _ _ _ _ _ r h => by simp [isoglosslaw06_TagApart.j6] at h⟩
  | k + 1 => by
    obtain ⟨ih0, ih1, ih2, ih3, ih4, ih5, ih6⟩ := isoglosslaw06_TagApart.mono_l k
    refine ⟨?_, ?_, ?_, ?_, ?_, ?_, ?_⟩
    · intro y0 y1 y2
      unfold isoglosslaw06_TagApart.j0
      repeat' first
      | (with_reducible exact ih0 _ _ _)
      | (with_reducible exact ih1 _ _ _ _)
      | (with_reducible exact ih2 _ _ _)
      | (with_reducible exact ih3 _ _ _ _)
      | (with_reducible exact ih4 _ _ _)
      | (with_reducible exact ih5 _ _ _)
      | (with_reducible exact ih6 _ _ _ _ _)
      | (with_reducible exact isoglosslaw06_awake.mono _)
      | (with_reducible exact isoglossref02_Class.mono _ _)
      | (with_reducible exact isoglossref04_Sub.mono _ _)
      | (with_reducible exact tag_Extlang.mono _ _)
      | (with_reducible exact tag_Language.mono _ _)
      | (with_reducible exact tag_Region.mono _ _)
      | (with_reducible exact tag_Script.mono _ _)
      | (with_reducible exact tag_Singleton.mono _ _)
      | (with_reducible exact tag_Variant.mono _ _)
      | (with_reducible exact LeO.refl _)
      | (with_reducible exact LeO.none _)
      | (with_reducible refine LeO.ite ?_ ?_)
      | (with_reducible refine LeO.bind ?_ (fun _ => ?_))
      | exact ih0 _ _ _
      | exact ih1 _ _ _ _
      | exact ih2 _ _ _
      | exact ih3 _ _ _ _
      | exact ih4 _ _ _
      | exact ih5 _ _ _
      | exact ih6 _ _ _ _ _
      | exact isoglosslaw06_awake.mono _
      | exact isoglossref02_Class.mono _ _
      | exact isoglossref04_Sub.mono _ _
      | exact tag_Extlang.mono _ _
      | exact tag_Language.mono _ _
      | exact tag_Region.mono _ _
      | exact tag_Script.mono _ _
      | exact tag_Singleton.mono _ _
      | exact tag_Variant.mono _ _
      | exact LeO.none _
      | refine LeO.ite ?_ ?_
      | refine LeO.bind ?_ (fun _ => ?_)
    · intro y0 y1 y2 y3
      unfold isoglosslaw06_TagApart.j1
      repeat' first
      | (with_reducible exact ih0 _ _ _)
      | (with_reducible exact ih1 _ _ _ _)
      | (with_reducible exact ih2 _ _ _)
      | (with_reducible exact ih3 _ _ _ _)
      | (with_reducible exact ih4 _ _ _)
      | (with_reducible exact ih5 _ _ _)
      | (with_reducible exact ih6 _ _ _ _ _)
      | (with_reducible exact isoglosslaw06_awake.mono _)
      | (with_reducible exact isoglossref02_Class.mono _ _)
      | (with_reducible exact isoglossref04_Sub.mono _ _)
      | (with_reducible exact tag_Extlang.mono _ _)
      | (with_reducible exact tag_Language.mono _ _)
      | (with_reducible exact tag_Region.mono _ _)
      | (with_reducible exact tag_Script.mono _ _)
      | (with_reducible exact tag_Singleton.mono _ _)
      | (with_reducible exact tag_Variant.mono _ _)
      | (with_reducible exact LeO.refl _)
      | (with_reducible exact LeO.none _)
      | (with_reducible refine LeO.ite ?_ ?_)
      | (with_reducible refine LeO.bind ?_ (fun _ => ?_))
      | exact ih0 _ _ _
      | exact ih1 _ _ _ _
      | exact ih2 _ _ _
      | exact ih3 _ _ _ _
      | exact ih4 _ _ _
      | exact ih5 _ _ _
      | exact ih6 _ _ _ _ _
      | exact isoglosslaw06_awake.mono _
      | exact isoglossref02_Class.mono _ _
      | exact isoglossref04_Sub.mono _ _
      | exact tag_Extlang.mono _ _
      | exact tag_Language.mono _ _
      | exact tag_Region.mono _ _
      | exact tag_Script.mono _ _
      | exact tag_Singleton.mono _ _
      | exact tag_Variant.mono _ _
      | exact LeO.none _
      | refine LeO.ite ?_ ?_
      | refine LeO.bind ?_ (fun _ => ?_)
    · intro y0 y1 y2
      unfold isoglosslaw06_TagApart.j2
      repeat' first
      | (with_reducible exact ih0 _ _ _)
      | (with_reducible exact ih1 _ _ _ _)
      | (with_reducible exact ih2 _ _ _)
      | (with_reducible exact ih3 _ _ _ _)
      | (with_reducible exact ih4 _ _ _)
      | (with_reducible exact ih5 _ _ _)
      | (with_reducible exact ih6 _ _ _ _ _)
      | (with_reducible exact isoglosslaw06_awake.mono _)
      | (with_reducible exact isoglossref02_Class.mono _ _)
      | (with_reducible exact isoglossref04_Sub.mono _ _)
      | (with_reducible exact tag_Extlang.mono _ _)
      | (with_reducible exact tag_Language.mono _ _)
      | (with_reducible exact tag_Region.mono _ _)
      | (with_reducible exact tag_Script.mono _ _)
      | (with_reducible exact tag_Singleton.mono _ _)
      | (with_reducible exact tag_Variant.mono _ _)
      | (with_reducible exact LeO.refl _)
      | (with_reducible exact LeO.none _)
      | (with_reducible refine LeO.ite ?_ ?_)
      | (with_reducible refine LeO.bind ?_ (fun _ => ?_))
      | exact ih0 _ _ _
      | exact ih1 _ _ _ _
      | exact ih2 _ _ _
      | exact ih3 _ _ _ _
      | exact ih4 _ _ _
      | exact ih5 _ _ _
      | exact ih6 _ _ _ _ _
      | exact isoglosslaw06_awake.mono _
      | exact isoglossref02_Class.mono _ _
      | exact isoglossref04_Sub.mono _ _
      | exact tag_Extlang.mono _ _
      | exact tag_Language.mono _ _
      | exact tag_Region.mono _ _
      | exact tag_Script.mono _ _
      | exact tag_Singleton.mono _ _
      | exact tag_Variant.mono _ _
      | exact LeO.none _
      | refine LeO.ite ?_ ?_
      | refine LeO.bind ?_ (fun _ => ?_)
    · intro y0 y1 y2 y3
      unfold isoglosslaw06_TagApart.j3
      repeat' first
      | (with_reducible exact ih0 _ _ _)
      | (with_reducible exact ih1 _ _ _ _)
      | (with_reducible exact ih2 _ _ _)
      | (with_reducible exact ih3 _ _ _ _)
      | (with_reducible exact ih4 _ _ _)
      | (with_reducible exact ih5 _ _ _)
      | (with_reducible exact ih6 _ _ _ _ _)
      | (with_reducible exact isoglosslaw06_awake.mono _)
      | (with_reducible exact isoglossref02_Class.mono _ _)
      | (with_reducible exact isoglossref04_Sub.mono _ _)
      | (with_reducible exact tag_Extlang.mono _ _)
      | (with_reducible exact tag_Language.mono _ _)
      | (with_reducible exact tag_Region.mono _ _)
      | (with_reducible exact tag_Script.mono _ _)
      | (with_reducible exact tag_Singleton.mono _ _)
      | (with_reducible exact tag_Variant.mono _ _)
      | (with_reducible exact LeO.refl _)
      | (with_reducible exact LeO.none _)
      | (with_reducible refine LeO.ite ?_ ?_)
      | (with_reducible refine LeO.bind ?_ (fun _ => ?_))
      | exact ih0 _ _ _
      | exact ih1 _ _ _ _
      | exact ih2 _ _ _
      | exact ih3 _ _ _ _
      | exact ih4 _ _ _
      | exact ih5 _ _ _
      | exact ih6 _ _ _ _ _
      | exact isoglosslaw06_awake.mono _
      | exact isoglossref02_Class.mono _ _
      | exact isoglossref04_Sub.mono _ _
      | exact tag_Extlang.mono _ _
      | exact tag_Language.mono _ _
      | exact tag_Region.mono _ _
      | exact tag_Script.mono _ _
      | exact tag_Singleton.mono _ _
      | exact tag_Variant.mono _ _
      | exact LeO.none _
      | refine LeO.ite ?_ ?_
      | refine LeO.bind ?_ (fun _ => ?_)
    · intro y0 y1 y2
      unfold isoglosslaw06_TagApart.j4
      repeat' first
      | (with_reducible exact ih0 _ _ _)
      | (with_reducible exact ih1 _ _ _ _)
      | (with_reducible exact ih2 _ _ _)
      | (with_reducible exact ih3 _ _ _ _)
      | (with_reducible exact ih4 _ _ _)
      | (with_reducible exact ih5 _ _ _)
      | (with_reducible exact ih6 _ _ _ _ _)
      | (with_reducible exact isoglosslaw06_awake.mono _)
      | (with_reducible exact isoglossref02_Class.mono _ _)
      | (with_reducible exact isoglossref04_Sub.mono _ _)
      | (with_reducible exact tag_Extlang.mono _ _)
      | (with_reducible exact tag_Language.mono _ _)
      | (with_reducible exact tag_Region.mono _ _)
      | (with_reducible exact tag_Script.mono _ _)
      | (with_reducible exact tag_Singleton.mono _ _)
      | (with_reducible exact tag_Variant.mono _ _)
      | (with_reducible exact LeO.refl _)
      | (with_reducible exact LeO.none _)
      | (with_reducible refine LeO.ite ?_ ?_)
      | (with_reducible refine LeO.bind ?_ (fun _ => ?_))
      | exact ih0 _ _ _
      | exact ih1 _ _ _ _
      | exact ih2 _ _ _
      | exact ih3 _ _ _ _
      | exact ih4 _ _ _
      | exact ih5 _ _ _
      | exact ih6 _ _ _ _ _
      | exact isoglosslaw06_awake.mono _
      | exact isoglossref02_Class.mono _ _
      | exact isoglossref04_Sub.mono _ _
      | exact tag_Extlang.mono _ _
      | exact tag_Language.mono _ _
      | exact tag_Region.mono _ _
      | exact tag_Script.mono _ _
      | exact tag_Singleton.mono _ _
      | exact tag_Variant.mono _ _
      | exact LeO.none _
      | refine LeO.ite ?_ ?_
      | refine LeO.bind ?_ (fun _ => ?_)
    · intro y0 y1 y2
      unfold isoglosslaw06_TagApart.j5
      repeat' first
      | (with_reducible exact ih0 _ _ _)
      | (with_reducible exact ih1 _ _ _ _)
      | (with_reducible exact ih2 _ _ _)
      | (with_reducible exact ih3 _ _ _ _)
      | (with_reducible exact ih4 _ _ _)
      | (with_reducible exact ih5 _ _ _)
      | (with_reducible exact ih6 _ _ _ _ _)
      | (with_reducible exact isoglosslaw06_awake.mono _)
      | (with_reducible exact isoglossref02_Class.mono _ _)
      | (with_reducible exact isoglossref04_Sub.mono _ _)
      | (with_reducible exact tag_Extlang.mono _ _)
      | (with_reducible exact tag_Language.mono _ _)
      | (with_reducible exact tag_Region.mono _ _)
      | (with_reducible exact tag_Script.mono _ _)
      | (with_reducible exact tag_Singleton.mono _ _)
      | (with_reducible exact tag_Variant.mono _ _)
      | (with_reducible exact LeO.refl _)
      | (with_reducible exact LeO.none _)
      | (with_reducible refine LeO.ite ?_ ?_)
      | (with_reducible refine LeO.bind ?_ (fun _ => ?_))
      | exact ih0 _ _ _
      | exact ih1 _ _ _ _
      | exact ih2 _ _ _
      | exact ih3 _ _ _ _
      | exact ih4 _ _ _
      | exact ih5 _ _ _
      | exact ih6 _ _ _ _ _
      | exact isoglosslaw06_awake.mono _
      | exact isoglossref02_Class.mono _ _
      | exact isoglossref04_Sub.mono _ _
      | exact tag_Extlang.mono _ _
      | exact tag_Language.mono _ _
      | exact tag_Region.mono _ _
      | exact tag_Script.mono _ _
      | exact tag_Singleton.mono _ _
      | exact tag_Variant.mono _ _
      | exact LeO.none _
      | refine LeO.ite ?_ ?_
      | refine LeO.bind ?_ (fun _ => ?_)
    · intro y0 y1 y2 y3 y4
      unfold isoglosslaw06_TagApart.j6
      repeat' first
      | (with_reducible exact ih0 _ _ _)
      | (with_reducible exact ih1 _ _ _ _)
      | (with_reducible exact ih2 _ _ _)
      | (with_reducible exact ih3 _ _ _ _)
      | (with_reducible exact ih4 _ _ _)
      | (with_reducible exact ih5 _ _ _)
      | (with_reducible exact ih6 _ _ _ _ _)
      | (with_reducible exact isoglosslaw06_awake.mono _)
      | (with_reducible exact isoglossref02_Class.mono _ _)
      | (with_reducible exact isoglossref04_Sub.mono _ _)
      | (with_reducible exact tag_Extlang.mono _ _)
      | (with_reducible exact tag_Language.mono _ _)
      | (with_reducible exact tag_Region.mono _ _)
      | (with_reducible exact tag_Script.mono _ _)
      | (with_reducible exact tag_Singleton.mono _ _)
      | (with_reducible exact tag_Variant.mono _ _)
      | (with_reducible exact LeO.refl _)
      | (with_reducible exact LeO.none _)
      | (with_reducible refine LeO.ite ?_ ?_)
      | (with_reducible refine LeO.bind ?_ (fun _ => ?_))
      | exact ih0 _ _ _
      | exact ih1 _ _ _ _
      | exact ih2 _ _ _
      | exact ih3 _ _ _ _
      | exact ih4 _ _ _
      | exact ih5 _ _ _
      | exact ih6 _ _ _ _ _
      | exact isoglosslaw06_awake.mono _
      | exact isoglossref02_Class.mono _ _
      | exact isoglossref04_Sub.mono _ _
      | exact tag_Extlang.mono _ _
      | exact tag_Language.mono _ _
      | exact tag_Region.mono _ _
      | exact tag_Script.mono _ _
      | exact tag_Singleton.mono _ _
      | exact tag_Variant.mono _ _
      | exact LeO.none _
      | refine LeO.ite ?_ ?_
      | refine LeO.bind ?_ (fun _ => ?_)
theorem isoglosslaw06_TagApart.mono : ∀ a0 k, LeO (isoglosslaw06_TagApart.f k a0) (isoglosslaw06_TagApart.f (k + 1) a0) := by
  intro a0 k
  obtain ⟨ih0, ih1, ih2, ih3, ih4, ih5, ih6⟩ := isoglosslaw06_TagApart.mono_l k
  unfold isoglosslaw06_TagApart.f
  repeat' first
      | (with_reducible exact ih0 _ _ _)
      | (with_reducible exact ih1 _ _ _ _)
      | (with_reducible exact ih2 _ _ _)
      | (with_reducible exact ih3 _ _ _ _)
      | (with_reducible exact ih4 _ _ _)
      | (with_reducible exact ih5 _ _ _)
      | (with_reducible exact ih6 _ _ _ _ _)
      | (with_reducible exact isoglosslaw06_awake.mono _)
      | (with_reducible exact isoglossref02_Class.mono _ _)
      | (with_reducible exact isoglossref04_Sub.mono _ _)
      | (with_reducible exact tag_Extlang.mono _ _)
      | (with_reducible exact tag_Language.mono _ _)
      | (with_reducible exact tag_Region.mono _ _)
      | (with_reducible exact tag_Script.mono _ _)
      | (with_reducible exact tag_Singleton.mono _ _)
      | (with_reducible exact tag_Variant.mono _ _)
      | (with_reducible exact LeO.refl _)
      | (with_reducible exact LeO.none _)
      | (with_reducible refine LeO.ite ?_ ?_)
      | (with_reducible refine LeO.bind ?_ (fun _ => ?_))
      | exact ih0 _ _ _
      | exact ih1 _ _ _ _
      | exact ih2 _ _ _
      | exact ih3 _ _ _ _
      | exact ih4 _ _ _
      | exact ih5 _ _ _
      | exact ih6 _ _ _ _ _
      | exact isoglosslaw06_awake.mono _
      | exact isoglossref02_Class.mono _ _
      | exact isoglossref04_Sub.mono _ _
      | exact tag_Extlang.mono _ _
      | exact tag_Language.mono _ _
      | exact tag_Region.mono _ _
      | exact tag_Script.mono _ _
      | exact tag_Singleton.mono _ _
      | exact tag_Variant.mono _ _
      | exact LeO.none _
      | refine LeO.ite ?_ ?_
      | refine LeO.bind ?_ (fun _ => ?_)
set_option maxHeartbeats 8000000 in
set_option maxRecDepth 100000 in
theorem isoglosslaw06_TagApart.calls (k : Nat) (a0 : ByteArray) (r : Bool) (w : World) (h : isoglosslaw06_TagApart.f k a0 = some r) :
    Calls Try.prog 6 #[.string a0] w fun e w' => e = .returned (.bool r) ∧ Below w.heap.size w w' := by
  have HB := Aside0.mk (Below.refl w.heap.size w)
  have H : ((isoglosslaw06_awake.f k).bind fun t361 => ((isoglosslaw06_short.f a0).bind fun t362 => ((tag_Language.f k t362).bind fun t363 => (if t363 = true then (isoglosslaw06_TagApart.j0 k t362 t361 (0 + 1)) else (isoglosslaw06_TagApart.j0 k t362 t361 0))))) = some r := h
  clear h
  replace H := Option.bind_eq_some_iff.mp H
  obtain ⟨t361, A20, H⟩ := H
  replace H : ((isoglosslaw06_short.f a0).bind fun t362 => ((tag_Language.f k t362).bind fun t363 => (if t363 = true then (isoglosslaw06_TagApart.j0 k t362 t361 (0 + 1)) else (isoglosslaw06_TagApart.j0 k t362 t361 0)))) = some r := H
  have A2 := Aside0.mk A20
  clear A20
  replace H := Option.bind_eq_some_iff.mp H
  obtain ⟨t362, A30, H⟩ := H
  replace H : ((tag_Language.f k t362).bind fun t363 => (if t363 = true then (isoglosslaw06_TagApart.j0 k t362 t361 (0 + 1)) else (isoglosslaw06_TagApart.j0 k t362 t361 0))) = some r := H
  have A3 := Aside0.mk A30
  clear A30
  replace H := Option.bind_eq_some_iff.mp H
  obtain ⟨t363, A40, H⟩ := H
  replace H : (if t363 = true then (isoglosslaw06_TagApart.j0 k t362 t361 (0 + 1)) else (isoglosslaw06_TagApart.j0 k t362 t361 0)) = some r := H
  have A4 := Aside0.mk A40
  clear A40
  have HC5 := Aside0.mk H
  clear H
  go_enter Try.func6, Try.ntmps6
  go_upto_if 11 with (first | ((with_reducible refine gate_callee (f := 8) rfl ?_); refine goesL_ (some 7) rfl rfl Try.func8 (by kernel_rfl) rfl #[] rfl (by (try simp only [List.map_toArray, List.map_cons, List.map_nil]); first | done | rfl | (simp only [List.length_drop, List.length_take]; rfl)) ?_; (with_reducible refine (isoglosslaw06_awake.calls k  t361 _ A2.out).mono ?_); rintro e w' ⟨rfl, ⟨nd, rfl⟩⟩; refine ⟨_, rfl, ?_⟩) | ((with_reducible refine gate_callee (f := 14) rfl ?_); refine goesL_ (some 9) rfl rfl Try.func14 (by kernel_rfl) rfl #[.string a0] rfl (by (try simp only [List.map_toArray, List.map_cons, List.map_nil]); first | done | rfl | (simp only [List.length_drop, List.length_take]; rfl)) ?_; (with_reducible refine (isoglosslaw06_short.calls a0 t362 _ A3.out).mono ?_); rintro e w' ⟨rfl, ⟨nd, rfl⟩⟩; refine ⟨_, rfl, ?_⟩) | ((with_reducible refine gate_callee (f := 18) rfl ?_); refine goesL_ (some 11) rfl rfl Try.func18 (by kernel_rfl) rfl #[.string t362] rfl (by (try simp only [List.map_toArray, List.map_cons, List.map_nil]); first | done | rfl | (simp only [List.length_drop, List.length_take]; rfl)) ?_; (with_reducible refine (tag_Language.calls k t362 t363 _ A4.out).mono ?_); rintro e w' ⟨rfl, ⟨nd, rfl⟩⟩; refine ⟨_, rfl, ?_⟩))
  (try simp only [Act.put, List.setIfInBounds_toArray, List.set_cons_zero, List.set_cons_succ])
  go_cut [4] (fun v4 wc => ∃ (kq : Nat) (x4_4 : Int), v4 = .int .i64 x4_4 ∧ Aside0 (isoglosslaw06_TagApart.j0 kq t362 t361 x4_4 = some r) ∧ Aside0 (kq ≤ k) ∧ Aside0 (Below w.heap.size w wc))
  case first =>
    have H := HC5.out
    clear HC5
    by_cases c6 : t363 = true
    · subst c6
      have H1 : (isoglosslaw06_TagApart.j0 k t362 t361 (0 + 1)) = some r := by rw [if_pos rfl] at H; exact H
      clear H
      have H := H1
      clear H1
      have H' := Aside0.mk H
      clear H
      go_wp2
      go_meet
      case rel => exact ⟨_, (0 + 1), (by first | rfl | (simp; done) | (simp [*]; done)), H', ⟨by first | omega | exact Nat.le_refl _⟩, ⟨by repeat (first | (with_reducible first | exact HB.out | apply below_alloc | apply pw_below_drewN | apply below_drew1) | exact HB.out)⟩⟩
    · replace c6 := Bool.eq_false_iff.mpr c6
      subst c6
      have H1 : (isoglosslaw06_TagApart.j0 k t362 t361 0) = some r := by rw [if_neg (show ¬ (false = true) by decide)] at H; exact H
      clear H
      have H := H1
      clear H1
      have H' := Aside0.mk H
      clear H
      go_wp2
      go_meet
      case rel => exact ⟨_, (0), (by first | rfl | (simp; done) | (simp [*]; done)), H', ⟨by first | omega | exact Nat.le_refl _⟩, ⟨by repeat (first | (with_reducible first | exact HB.out | apply below_alloc | apply pw_below_drewN | apply below_drew1) | exact HB.out)⟩⟩
  case rest =>
    clear HC5
    try clear c1
    try clear p2
    try clear c6
    obtain ⟨kq, x4_4, rfl, HA, HJ4, HB⟩ := hcut
    cases kq with
    | zero => exact absurd HA.out (by simp [isoglosslaw06_TagApart.j0])
    | succ kj4 =>
      have H := HA.out
      clear HA
      simp only [isoglosslaw06_TagApart.j0] at H
      have HC7 := Aside0.mk H
      clear H
      go_upto_region 6 with (fail)
      go_cut [20] (fun v20 wc => ∃ (kq : Nat) (x20_6 : Bool), v20 = .bool x20_6 ∧ Aside0 (isoglosslaw06_TagApart.j1 kq t362 t361 x4_4 x20_6 = some r) ∧ Aside0 (kq ≤ kj4) ∧ Aside0 (Below w.heap.size w wc))
      case first =>
        have H := HC7.out
        clear HC7
        replace H := Option.bind_eq_some_iff.mp H
        obtain ⟨t364, A80, H⟩ := H
        replace H : (if t364 = true then (isoglosslaw06_TagApart.j1 kj4 t362 t361 x4_4 ((t362.size : Int) == 3)) else (isoglosslaw06_TagApart.j1 kj4 t362 t361 x4_4 false)) = some r := H
        have A8 := Aside0.mk A80
        clear A80
        by_cases c9 : t364 = true
        · subst c9
          have H1 : (isoglosslaw06_TagApart.j1 kj4 t362 t361 x4_4 ((t362.size : Int) == 3)) = some r := by rw [if_pos rfl] at H; exact H
          clear H
          have H := H1
          clear H1
          have H' := Aside0.mk H
          clear H
          go_wp2_with (first | ((with_reducible refine gate_callee (f := 19) rfl ?_); refine goesL_ (some 15) rfl rfl Try.func19 (by kernel_rfl) rfl #[.string t362] rfl (by (try simp only [List.map_toArray, List.map_cons, List.map_nil]); first | done | rfl | (simp only [List.length_drop, List.length_take]; rfl)) ?_; (with_reducible refine (tag_Region.calls kj4 t362 true _ A8.out).mono ?_); rintro e w' ⟨rfl, ⟨nd, rfl⟩⟩; refine ⟨_, rfl, ?_⟩))
          go_meet
          case rel => exact ⟨_, (((t362.size : Int) == 3)), (by first | rfl | (simp; done) | (simp [*]; done)), H', ⟨by have := HJ4.out; first | omega | exact Nat.le_refl _⟩, ⟨by repeat (first | (with_reducible first | exact HB.out | apply below_alloc | apply pw_below_drewN | apply below_drew1) | exact HB.out)⟩⟩
        · replace c9 := Bool.eq_false_iff.mpr c9
          subst c9
          have H1 : (isoglosslaw06_TagApart.j1 kj4 t362 t361 x4_4 false) = some r := by rw [if_neg (show ¬ (false = true) by decide)] at H; exact H
          clear H
          have H := H1
          clear H1
          have H' := Aside0.mk H
          clear H
          go_wp2_with (first | ((with_reducible refine gate_callee (f := 19) rfl ?_); refine goesL_ (some 15) rfl rfl Try.func19 (by kernel_rfl) rfl #[.string t362] rfl (by (try simp only [List.map_toArray, List.map_cons, List.map_nil]); first | done | rfl | (simp only [List.length_drop, List.length_take]; rfl)) ?_; (with_reducible refine (tag_Region.calls kj4 t362 false _ A8.out).mono ?_); rintro e w' ⟨rfl, ⟨nd, rfl⟩⟩; refine ⟨_, rfl, ?_⟩))
          go_meet
          case rel => exact ⟨_, (false), (by first | rfl | (simp; done) | (simp [*]; done)), H', ⟨by have := HJ4.out; first | omega | exact Nat.le_refl _⟩, ⟨by repeat (first | (with_reducible first | exact HB.out | apply below_alloc | apply pw_below_drewN | apply below_drew1) | exact HB.out)⟩⟩
      case rest =>
        clear HC7
        try clear c1
        try clear p2
        try clear c6
        try clear c8
        try clear c9
        try clear p2
        obtain ⟨kq, x20_6, rfl, HA, HJ6, HB⟩ := hcut
        cases kq with
        | zero => exact absurd HA.out (by simp [isoglosslaw06_TagApart.j1])
        | succ kj6 =>
          have H := HA.out
          clear HA
          simp only [isoglosslaw06_TagApart.j1] at H
          have HC10 := Aside0.mk H
          clear H
          go_upto_if 20 with (fail)
          go_cut [4] (fun v4 wc => ∃ (kq : Nat) (x4_9 : Int), v4 = .int .i64 x4_9 ∧ Aside0 (isoglosslaw06_TagApart.j2 kq t362 t361 x4_9 = some r) ∧ Aside0 (kq ≤ kj6) ∧ Aside0 (Below w.heap.size w wc))
          case first =>
            have H := HC10.out
            clear HC10
            by_cases c11 : x20_6 = true
            · subst c11
              have H1 : (isoglosslaw06_TagApart.j2 kj6 t362 t361 (wrap64 (x4_4 + 1))) = some r := by rw [if_pos rfl] at H; exact H
              clear H
              have H := H1
              clear H1
              have H' := Aside0.mk H
              clear H
              go_wp2
              go_meet
              case rel => exact ⟨_, (wrap64 (x4_4 + 1)), (by first | rfl | (simp; done) | (simp [*]; done)), H', ⟨by have := HJ4.out; have := HJ6.out; first | omega | exact Nat.le_refl _⟩, ⟨by repeat (first | (with_reducible first | exact HB.out | apply below_alloc | apply pw_below_drewN | apply below_drew1) | exact HB.out)⟩⟩
            · replace c11 := Bool.eq_false_iff.mpr c11
              subst c11
              have H1 : (isoglosslaw06_TagApart.j2 kj6 t362 t361 x4_4) = some r := by rw [if_neg (show ¬ (false = true) by decide)] at H; exact H
              clear H
              have H := H1
              clear H1
              have H' := Aside0.mk H
              clear H
              go_wp2
              go_meet
              case rel => exact ⟨_, (x4_4), (by first | rfl | (simp; done) | (simp [*]; done)), H', ⟨by have := HJ4.out; have := HJ6.out; first | omega | exact Nat.le_refl _⟩, ⟨by repeat (first | (with_reducible first | exact HB.out | apply below_alloc | apply pw_below_drewN | apply below_drew1) | exact HB.out)⟩⟩
          case rest =>
            clear HC10
            try clear c1
            try clear p2
            try clear c6
            try clear p6
            try clear c8
            try clear c9
            try clear c11
            try clear p2
            obtain ⟨kq, x4_9, rfl, HA, HJ9, HB⟩ := hcut
            cases kq with
            | zero => exact absurd HA.out (by simp [isoglosslaw06_TagApart.j2])
            | succ kj9 =>
              have H := HA.out
              clear HA
              simp only [isoglosslaw06_TagApart.j2] at H
              have HC12 := Aside0.mk H
              clear H
              go_upto_region 8 with (fail)
              go_cut [29] (fun v29 wc => ∃ (kq : Nat) (x29_11 : Bool), v29 = .bool x29_11 ∧ Aside0 (isoglosslaw06_TagApart.j3 kq t362 t361 x4_9 x29_11 = some r) ∧ Aside0 (kq ≤ kj9) ∧ Aside0 (Below w.heap.size w wc))
              case first =>
                have H := HC12.out
                clear HC12
                replace H := Option.bind_eq_some_iff.mp H
                obtain ⟨t365, A130, H⟩ := H
                replace H : (if t365 = true then ((isoglossref02_Class.f kj9 t362).bind fun t366 => (isoglosslaw06_TagApart.j3 kj9 t362 t361 x4_9 (t366 != 1))) else (isoglosslaw06_TagApart.j3 kj9 t362 t361 x4_9 false)) = some r := H
                have A13 := Aside0.mk A130
                clear A130
                by_cases c14 : t365 = true
                · subst c14
                  have H1 : ((isoglossref02_Class.f kj9 t362).bind fun t366 => (isoglosslaw06_TagApart.j3 kj9 t362 t361 x4_9 (t366 != 1))) = some r := by rw [if_pos rfl] at H; exact H
                  clear H
                  have H := H1
                  clear H1
                  replace H := Option.bind_eq_some_iff.mp H
                  obtain ⟨t366, A150, H⟩ := H
                  replace H : (isoglosslaw06_TagApart.j3 kj9 t362 t361 x4_9 (t366 != 1)) = some r := H
                  have A15 := Aside0.mk A150
                  clear A150
                  have H' := Aside0.mk H
                  clear H
                  go_wp2_with (first | ((with_reducible refine gate_callee (f := 20) rfl ?_); refine goesL_ (some 24) rfl rfl Try.func20 (by kernel_rfl) rfl #[.string t362] rfl (by (try simp only [List.map_toArray, List.map_cons, List.map_nil]); first | done | rfl | (simp only [List.length_drop, List.length_take]; rfl)) ?_; (with_reducible refine (tag_Variant.calls kj9 t362 true _ A13.out).mono ?_); rintro e w' ⟨rfl, ⟨nd, rfl⟩⟩; refine ⟨_, rfl, ?_⟩) | (go_at_call 21; (with_reducible refine (isoglossref02_Class.calls kj9 t362 t366 _ A15.out).mono ?_); rintro e w' ⟨rfl, ⟨nd, rfl⟩⟩))
                  go_meet
                  case rel => exact ⟨_, ((t366 != 1)), (by first | rfl | (simp; done) | (simp [*]; done)), H', ⟨by have := HJ4.out; have := HJ6.out; have := HJ9.out; first | omega | exact Nat.le_refl _⟩, ⟨by repeat (first | (with_reducible first | exact HB.out | apply below_alloc | apply pw_below_drewN | apply below_drew1) | exact HB.out)⟩⟩
                · replace c14 := Bool.eq_false_iff.mpr c14
                  subst c14
                  have H1 : (isoglosslaw06_TagApart.j3 kj9 t362 t361 x4_9 false) = some r := by rw [if_neg (show ¬ (false = true) by decide)] at H; exact H
                  clear H
                  have H := H1
                  clear H1
                  have H' := Aside0.mk H
                  clear H
                  go_wp2_with (first | ((with_reducible refine gate_callee (f := 20) rfl ?_); refine goesL_ (some 24) rfl rfl Try.func20 (by kernel_rfl) rfl #[.string t362] rfl (by (try simp only [List.map_toArray, List.map_cons, List.map_nil]); first | done | rfl | (simp only [List.length_drop, List.length_take]; rfl)) ?_; (with_reducible refine (tag_Variant.calls kj9 t362 false _ A13.out).mono ?_); rintro e w' ⟨rfl, ⟨nd, rfl⟩⟩; refine ⟨_, rfl, ?_⟩))
                  go_meet
                  case rel => exact ⟨_, (false), (by first | rfl | (simp; done) | (simp [*]; done)), H', ⟨by have := HJ4.out; have := HJ6.out; have := HJ9.out; first | omega | exact Nat.le_refl _⟩, ⟨by repeat (first | (with_reducible first | exact HB.out | apply below_alloc | apply pw_below_drewN | apply below_drew1) | exact HB.out)⟩⟩
              case rest =>
                clear HC12
                try clear c1
                try clear c2
                try clear p2
                try clear c6
                try clear p6
                try clear c8
                try clear c9
                try clear c11
                try clear c14
                try clear p2
                try clear p6
                obtain ⟨kq, x29_11, rfl, HA, HJ11, HB⟩ := hcut
                cases kq with
                | zero => exact absurd HA.out (by simp [isoglosslaw06_TagApart.j3])
                | succ kj11 =>
                  have H := HA.out
                  clear HA
                  simp only [isoglosslaw06_TagApart.j3] at H
                  have HC16 := Aside0.mk H
                  clear H
                  go_upto_if 29 with (fail)
                  go_cut [4] (fun v4 wc => ∃ (kq : Nat) (x4_15 : Int), v4 = .int .i64 x4_15 ∧ Aside0 (isoglosslaw06_TagApart.j4 kq t362 t361 x4_15 = some r) ∧ Aside0 (kq ≤ kj11) ∧ Aside0 (Below w.heap.size w wc))
                  case first =>
                    have H := HC16.out
                    clear HC16
                    by_cases c17 : x29_11 = true
                    · subst c17
                      have H1 : (isoglosslaw06_TagApart.j4 kj11 t362 t361 (wrap64 (x4_9 + 1))) = some r := by rw [if_pos rfl] at H; exact H
                      clear H
                      have H := H1
                      clear H1
                      have H' := Aside0.mk H
                      clear H
                      go_wp2
                      go_meet
                      case rel => exact ⟨_, (wrap64 (x4_9 + 1)), (by first | rfl | (simp; done) | (simp [*]; done)), H', ⟨by have := HJ4.out; have := HJ6.out; have := HJ9.out; have := HJ11.out; first | omega | exact Nat.le_refl _⟩, ⟨by repeat (first | (with_reducible first | exact HB.out | apply below_alloc | apply pw_below_drewN | apply below_drew1) | exact HB.out)⟩⟩
                    · replace c17 := Bool.eq_false_iff.mpr c17
                      subst c17
                      have H1 : (isoglosslaw06_TagApart.j4 kj11 t362 t361 x4_9) = some r := by rw [if_neg (show ¬ (false = true) by decide)] at H; exact H
                      clear H
                      have H := H1
                      clear H1
                      have H' := Aside0.mk H
                      clear H
                      go_wp2
                      go_meet
                      case rel => exact ⟨_, (x4_9), (by first | rfl | (simp; done) | (simp [*]; done)), H', ⟨by have := HJ4.out; have := HJ6.out; have := HJ9.out; have := HJ11.out; first | omega | exact Nat.le_refl _⟩, ⟨by repeat (first | (with_reducible first | exact HB.out | apply below_alloc | apply pw_below_drewN | apply below_drew1) | exact HB.out)⟩⟩
                  case rest =>
                    clear HC16
                    try clear c1
                    try clear c2
                    try clear p2
                    try clear c6
                    try clear p6
                    try clear c8
                    try clear c9
                    try clear c11
                    try clear c14
                    try clear c17
                    try clear p2
                    try clear p6
                    obtain ⟨kq, x4_15, rfl, HA, HJ15, HB⟩ := hcut
                    cases kq with
                    | zero => exact absurd HA.out (by simp [isoglosslaw06_TagApart.j4])
                    | succ kj15 =>
                      have H := HA.out
                      clear HA
                      simp only [isoglosslaw06_TagApart.j4] at H
                      replace H := Option.bind_eq_some_iff.mp H
                      obtain ⟨t367, A180, H⟩ := H
                      replace H : (if t367 = true then (isoglosslaw06_TagApart.j5 kj15 t362 t361 (wrap64 (x4_15 + 1))) else (isoglosslaw06_TagApart.j5 kj15 t362 t361 x4_15)) = some r := H
                      have A18 := Aside0.mk A180
                      clear A180
                      have HC19 := Aside0.mk H
                      clear H
                      go_upto_if 33 with (first | ((with_reducible refine gate_callee (f := 22) rfl ?_); refine goesL_ (some 33) rfl rfl Try.func22 (by kernel_rfl) rfl #[.string t362] rfl (by (try simp only [List.map_toArray, List.map_cons, List.map_nil]); first | done | rfl | (simp only [List.length_drop, List.length_take]; rfl)) ?_; (with_reducible refine (tag_Singleton.calls kj15 t362 t367 _ A18.out).mono ?_); rintro e w20 ⟨rfl, hb⟩; refine ⟨_, rfl, ?_⟩; have n0_ := Aside0.mk (below_step (by repeat (first | (with_reducible first | exact HB.out | apply below_alloc | apply pw_below_drewN | apply below_drew1) | exact HB.out)) hb); clear HB; have HB := n0_; clear n0_; (try clear hb); (try clear hb2); (try clear hk); (try clear hi)))
                      (try simp only [Act.put, List.setIfInBounds_toArray, List.set_cons_zero, List.set_cons_succ])
                      go_cut [4] (fun v4 wc => ∃ (kq : Nat) (x4_18 : Int), v4 = .int .i64 x4_18 ∧ Aside0 (isoglosslaw06_TagApart.j5 kq t362 t361 x4_18 = some r) ∧ Aside0 (kq ≤ kj15) ∧ Aside0 (Below w.heap.size w wc))
                      case first =>
                        have H := HC19.out
                        clear HC19
                        by_cases c21 : t367 = true
                        · subst c21
                          have H1 : (isoglosslaw06_TagApart.j5 kj15 t362 t361 (wrap64 (x4_15 + 1))) = some r := by rw [if_pos rfl] at H; exact H
                          clear H
                          have H := H1
                          clear H1
                          have H' := Aside0.mk H
                          clear H
                          go_wp2
                          go_meet
                          case rel => exact ⟨_, (wrap64 (x4_15 + 1)), (by first | rfl | (simp; done) | (simp [*]; done)), H', ⟨by have := HJ4.out; have := HJ6.out; have := HJ9.out; have := HJ11.out; have := HJ15.out; first | omega | exact Nat.le_refl _⟩, ⟨by repeat (first | (with_reducible first | exact HB.out | apply below_alloc | apply pw_below_drewN | apply below_drew1) | exact HB.out)⟩⟩
                        · replace c21 := Bool.eq_false_iff.mpr c21
                          subst c21
                          have H1 : (isoglosslaw06_TagApart.j5 kj15 t362 t361 x4_15) = some r := by rw [if_neg (show ¬ (false = true) by decide)] at H; exact H
                          clear H
                          have H := H1
                          clear H1
                          have H' := Aside0.mk H
                          clear H
                          go_wp2
                          go_meet
                          case rel => exact ⟨_, (x4_15), (by first | rfl | (simp; done) | (simp [*]; done)), H', ⟨by have := HJ4.out; have := HJ6.out; have := HJ9.out; have := HJ11.out; have := HJ15.out; first | omega | exact Nat.le_refl _⟩, ⟨by repeat (first | (with_reducible first | exact HB.out | apply below_alloc | apply pw_below_drewN | apply below_drew1) | exact HB.out)⟩⟩
                      case rest =>
                        clear HC19
                        try clear c1
                        try clear c2
                        try clear p2
                        try clear c6
                        try clear p6
                        try clear c8
                        try clear c9
                        try clear c11
                        try clear c14
                        try clear c17
                        try clear c18
                        try clear c19
                        try clear c20
                        try clear c21
                        try clear p2
                        try clear p6
                        obtain ⟨kq, x4_18, rfl, HA, HJ18, HB⟩ := hcut
                        cases kq with
                        | zero => exact absurd HA.out (by simp [isoglosslaw06_TagApart.j5])
                        | succ kj18 =>
                          have H := HA.out
                          clear HA
                          simp only [isoglosslaw06_TagApart.j5] at H
                          replace H := Option.bind_eq_some_iff.mp H
                          obtain ⟨t368, A220, H⟩ := H
                          replace H : ((tag_Extlang.f kj18 t362).bind fun t369 => (if t369 = true then (isoglosslaw06_TagApart.j6 kj18 t362 t361 x4_18 t368 true) else ((tag_Script.f kj18 t362).bind fun t370 => (if t370 = true then (isoglosslaw06_TagApart.j6 kj18 t362 t361 x4_18 t368 true) else ((tag_Region.f kj18 t362).bind fun t371 => (if t371 = true then (isoglosslaw06_TagApart.j6 kj18 t362 t361 x4_18 t368 true) else ((tag_Variant.f kj18 t362).bind fun t372 => (isoglosslaw06_TagApart.j6 kj18 t362 t361 x4_18 t368 t372)))))))) = some r := H
                          have A22 := Aside0.mk A220
                          clear A220
                          have HC23 := Aside0.mk H
                          clear H
                          go_upto_region 13 with (first | ((with_reducible refine gate_callee (f := 23) rfl ?_); refine goesL_ (some 37) rfl rfl Try.func23 (by kernel_rfl) rfl #[.string t362] rfl (by (try simp only [List.map_toArray, List.map_cons, List.map_nil]); first | done | rfl | (simp only [List.length_drop, List.length_take]; rfl)) ?_; (with_reducible refine (isoglossref04_Sub.calls kj18 t362 t368 _ A22.out).mono ?_); rintro e w' ⟨rfl, ⟨nd, rfl⟩⟩; refine ⟨_, rfl, ?_⟩))
                          (try simp only [Act.put, List.setIfInBounds_toArray, List.set_cons_zero, List.set_cons_succ])
                          go_cut [6] (fun v6 wc => ∃ (kq : Nat) (x6_22 : Bool), v6 = .bool x6_22 ∧ Aside0 (isoglosslaw06_TagApart.j6 kq t362 t361 x4_18 t368 x6_22 = some r) ∧ Aside0 (kq ≤ kj18) ∧ Aside0 (Below w.heap.size w wc))
                          case first =>
                            have H := HC23.out
                            clear HC23
                            replace H := Option.bind_eq_some_iff.mp H
                            obtain ⟨t369, A240, H⟩ := H
                            replace H : (if t369 = true then (isoglosslaw06_TagApart.j6 kj18 t362 t361 x4_18 t368 true) else ((tag_Script.f kj18 t362).bind fun t370 => (if t370 = true then (isoglosslaw06_TagApart.j6 kj18 t362 t361 x4_18 t368 true) else ((tag_Region.f kj18 t362).bind fun t371 => (if t371 = true then (isoglosslaw06_TagApart.j6 kj18 t362 t361 x4_18 t368 true) else ((tag_Variant.f kj18 t362).bind fun t372 => (isoglosslaw06_TagApart.j6 kj18 t362 t361 x4_18 t368 t372))))))) = some r := H
                            have A24 := Aside0.mk A240
                            clear A240
                            by_cases c25 : t369 = true
                            · subst c25
                              have H1 : (isoglosslaw06_TagApart.j6 kj18 t362 t361 x4_18 t368 true) = some r := by rw [if_pos rfl] at H; exact H
                              clear H
                              have H := H1
                              clear H1
                              have H' := Aside0.mk H
                              clear H
                              go_wp2_with (first | ((with_reducible refine gate_callee (f := 24) rfl ?_); refine goesL_ (some 39) rfl rfl Try.func24 (by kernel_rfl) rfl #[.string t362] rfl (by (try simp only [List.map_toArray, List.map_cons, List.map_nil]); first | done | rfl | (simp only [List.length_drop, List.length_take]; rfl)) ?_; (with_reducible refine (tag_Extlang.calls kj18 t362 true _ A24.out).mono ?_); rintro e w' ⟨rfl, ⟨nd, rfl⟩⟩; refine ⟨_, rfl, ?_⟩))
                              go_meet
                              case rel => exact ⟨_, (true), (by first | rfl | (simp; done) | (simp [*]; done)), H', ⟨by have := HJ4.out; have := HJ6.out; have := HJ9.out; have := HJ11.out; have := HJ15.out; have := HJ18.out; first | omega | exact Nat.le_refl _⟩, ⟨by repeat (first | (with_reducible first | exact HB.out | apply below_alloc | apply pw_below_drewN | apply below_drew1) | exact HB.out)⟩⟩
                            · replace c25 := Bool.eq_false_iff.mpr c25
                              subst c25
                              have H1 : ((tag_Script.f kj18 t362).bind fun t370 => (if t370 = true then (isoglosslaw06_TagApart.j6 kj18 t362 t361 x4_18 t368 true) else ((tag_Region.f kj18 t362).bind fun t371 => (if t371 = true then (isoglosslaw06_TagApart.j6 kj18 t362 t361 x4_18 t368 true) else ((tag_Variant.f kj18 t362).bind fun t372 => (isoglosslaw06_TagApart.j6 kj18 t362 t361 x4_18 t368 t372)))))) = some r := by rw [if_neg (show ¬ (false = true) by decide)] at H; exact H
                              clear H
                              have H := H1
                              clear H1
                              replace H := Option.bind_eq_some_iff.mp H
                              obtain ⟨t370, A260, H⟩ := H
                              replace H : (if t370 = true then (isoglosslaw06_TagApart.j6 kj18 t362 t361 x4_18 t368 true) else ((tag_Region.f kj18 t362).bind fun t371 => (if t371 = true then (isoglosslaw06_TagApart.j6 kj18 t362 t361 x4_18 t368 true) else ((tag_Variant.f kj18 t362).bind fun t372 => (isoglosslaw06_TagApart.j6 kj18 t362 t361 x4_18 t368 t372))))) = some r := H
                              have A26 := Aside0.mk A260
                              clear A260
                              by_cases c27 : t370 = true
                              · subst c27
                                have H1 : (isoglosslaw06_TagApart.j6 kj18 t362 t361 x4_18 t368 true) = some r := by rw [if_pos rfl] at H; exact H
                                clear H
                                have H := H1
                                clear H1
                                have H' := Aside0.mk H
                                clear H
                                go_wp2_with (first | ((with_reducible refine gate_callee (f := 24) rfl ?_); refine goesL_ (some 39) rfl rfl Try.func24 (by kernel_rfl) rfl #[.string t362] rfl (by (try simp only [List.map_toArray, List.map_cons, List.map_nil]); first | done | rfl | (simp only [List.length_drop, List.length_take]; rfl)) ?_; (with_reducible refine (tag_Extlang.calls kj18 t362 false _ A24.out).mono ?_); rintro e w' ⟨rfl, ⟨nd, rfl⟩⟩; refine ⟨_, rfl, ?_⟩) | (go_at_call 25; (with_reducible refine (tag_Script.calls kj18 t362 true _ A26.out).mono ?_); rintro e w' ⟨rfl, ⟨nd, rfl⟩⟩))
                                go_meet
                                case rel => exact ⟨_, (true), (by first | rfl | (simp; done) | (simp [*]; done)), H', ⟨by have := HJ4.out; have := HJ6.out; have := HJ9.out; have := HJ11.out; have := HJ15.out; have := HJ18.out; first | omega | exact Nat.le_refl _⟩, ⟨by repeat (first | (with_reducible first | exact HB.out | apply below_alloc | apply pw_below_drewN | apply below_drew1) | exact HB.out)⟩⟩
                              · replace c27 := Bool.eq_false_iff.mpr c27
                                subst c27
                                have H1 : ((tag_Region.f kj18 t362).bind fun t371 => (if t371 = true then (isoglosslaw06_TagApart.j6 kj18 t362 t361 x4_18 t368 true) else ((tag_Variant.f kj18 t362).bind fun t372 => (isoglosslaw06_TagApart.j6 kj18 t362 t361 x4_18 t368 t372)))) = some r := by rw [if_neg (show ¬ (false = true) by decide)] at H; exact H
                                clear H
                                have H := H1
                                clear H1
                                replace H := Option.bind_eq_some_iff.mp H
                                obtain ⟨t371, A280, H⟩ := H
                                replace H : (if t371 = true then (isoglosslaw06_TagApart.j6 kj18 t362 t361 x4_18 t368 true) else ((tag_Variant.f kj18 t362).bind fun t372 => (isoglosslaw06_TagApart.j6 kj18 t362 t361 x4_18 t368 t372))) = some r := H
                                have A28 := Aside0.mk A280
                                clear A280
                                by_cases c29 : t371 = true
                                · subst c29
                                  have H1 : (isoglosslaw06_TagApart.j6 kj18 t362 t361 x4_18 t368 true) = some r := by rw [if_pos rfl] at H; exact H
                                  clear H
                                  have H := H1
                                  clear H1
                                  have H' := Aside0.mk H
                                  clear H
                                  go_wp2_with (first | ((with_reducible refine gate_callee (f := 24) rfl ?_); refine goesL_ (some 39) rfl rfl Try.func24 (by kernel_rfl) rfl #[.string t362] rfl (by (try simp only [List.map_toArray, List.map_cons, List.map_nil]); first | done | rfl | (simp only [List.length_drop, List.length_take]; rfl)) ?_; (with_reducible refine (tag_Extlang.calls kj18 t362 false _ A24.out).mono ?_); rintro e w' ⟨rfl, ⟨nd, rfl⟩⟩; refine ⟨_, rfl, ?_⟩) | (go_at_call 25; (with_reducible refine (tag_Script.calls kj18 t362 false _ A26.out).mono ?_); rintro e w' ⟨rfl, ⟨nd, rfl⟩⟩) | (go_at_call 19; (with_reducible refine (tag_Region.calls kj18 t362 true _ A28.out).mono ?_); rintro e w' ⟨rfl, ⟨nd, rfl⟩⟩))
                                  go_meet
                                  case rel => exact ⟨_, (true), (by first | rfl | (simp; done) | (simp [*]; done)), H', ⟨by have := HJ4.out; have := HJ6.out; have := HJ9.out; have := HJ11.out; have := HJ15.out; have := HJ18.out; first | omega | exact Nat.le_refl _⟩, ⟨by repeat (first | (with_reducible first | exact HB.out | apply below_alloc | apply pw_below_drewN | apply below_drew1) | exact HB.out)⟩⟩
                                · replace c29 := Bool.eq_false_iff.mpr c29
                                  subst c29
                                  have H1 : ((tag_Variant.f kj18 t362).bind fun t372 => (isoglosslaw06_TagApart.j6 kj18 t362 t361 x4_18 t368 t372)) = some r := by rw [if_neg (show ¬ (false = true) by decide)] at H; exact H
                                  clear H
                                  have H := H1
                                  clear H1
                                  replace H := Option.bind_eq_some_iff.mp H
                                  obtain ⟨t372, A300, H⟩ := H
                                  replace H : (isoglosslaw06_TagApart.j6 kj18 t362 t361 x4_18 t368 t372) = some r := H
                                  have A30 := Aside0.mk A300
                                  clear A300
                                  have H' := Aside0.mk H
                                  clear H
                                  go_wp2_with (first | ((with_reducible refine gate_callee (f := 24) rfl ?_); refine goesL_ (some 39) rfl rfl Try.func24 (by kernel_rfl) rfl #[.string t362] rfl (by (try simp only [List.map_toArray, List.map_cons, List.map_nil]); first | done | rfl | (simp only [List.length_drop, List.length_take]; rfl)) ?_; (with_reducible refine (tag_Extlang.calls kj18 t362 false _ A24.out).mono ?_); rintro e w' ⟨rfl, ⟨nd, rfl⟩⟩; refine ⟨_, rfl, ?_⟩) | (go_at_call 25; (with_reducible refine (tag_Script.calls kj18 t362 false _ A26.out).mono ?_); rintro e w' ⟨rfl, ⟨nd, rfl⟩⟩) | (go_at_call 19; (with_reducible refine (tag_Region.calls kj18 t362 false _ A28.out).mono ?_); rintro e w' ⟨rfl, ⟨nd, rfl⟩⟩) | (go_at_call 20; (with_reducible refine (tag_Variant.calls kj18 t362 t372 _ A30.out).mono ?_); rintro e w' ⟨rfl, ⟨nd, rfl⟩⟩))
                                  go_meet
                                  case rel => exact ⟨_, (t372), (by first | rfl | (simp; done) | (simp [*]; done)), H', ⟨by have := HJ4.out; have := HJ6.out; have := HJ9.out; have := HJ11.out; have := HJ15.out; have := HJ18.out; first | omega | exact Nat.le_refl _⟩, ⟨by repeat (first | (with_reducible first | exact HB.out | apply below_alloc | apply pw_below_drewN | apply below_drew1) | exact HB.out)⟩⟩
                          case rest =>
                            clear HC23
                            try clear c1
                            try clear c2
                            try clear p2
                            try clear c6
                            try clear p6
                            try clear c8
                            try clear c9
                            try clear c11
                            try clear c14
                            try clear c17
                            try clear c18
                            try clear c19
                            try clear c20
                            try clear c21
                            try clear c22
                            try clear c23
                            try clear c24
                            try clear c25
                            try clear c27
                            try clear c29
                            try clear p2
                            try clear p6
                            obtain ⟨kq, x6_22, rfl, HA, HJ22, HB⟩ := hcut
                            cases kq with
                            | zero => exact absurd HA.out (by simp [isoglosslaw06_TagApart.j6])
                            | succ kj22 =>
                              have H := HA.out
                              clear HA
                              simp only [isoglosslaw06_TagApart.j6] at H
                              by_cases c31 : t361 = true
                              · subst c31
                                have H1 : (if x4_18 ≤ 1 then (if x6_22 = true then (if t368 = true then ((tag_Extlang.f kj22 t362).bind fun t373 => (if t373 = true then ((tag_Language.f kj22 t362).bind fun t374 => (if t374 = true then ((tag_Script.f kj22 t362).bind fun t375 => (if t375 = true then (some false) else ((tag_Region.f kj22 t362).bind fun t376 => (if t376 = true then (some false) else ((tag_Script.f kj22 t362).bind fun t377 => (if t377 = true then ((tag_Language.f kj22 t362).bind fun t378 => (if t378 = true then ((tag_Variant.f kj22 t362).bind fun t379 => (some (!t379))) else (some false))) else (some true))))))) else (some false))) else ((tag_Script.f kj22 t362).bind fun t380 => (if t380 = true then ((tag_Language.f kj22 t362).bind fun t381 => (if t381 = true then ((tag_Variant.f kj22 t362).bind fun t382 => (some (!t382))) else (some false))) else (some true))))) else (some false)) else (if x4_18 = 0 then ((tag_Extlang.f kj22 t362).bind fun t383 => (if t383 = true then ((tag_Language.f kj22 t362).bind fun t384 => (if t384 = true then ((tag_Script.f kj22 t362).bind fun t385 => (if t385 = true then (some false) else ((tag_Region.f kj22 t362).bind fun t386 => (if t386 = true then (some false) else ((tag_Script.f kj22 t362).bind fun t387 => (if t387 = true then ((tag_Language.f kj22 t362).bind fun t388 => (if t388 = true then ((tag_Variant.f kj22 t362).bind fun t389 => (some (!t389))) else (some false))) else (some true))))))) else (some false))) else ((tag_Script.f kj22 t362).bind fun t390 => (if t390 = true then ((tag_Language.f kj22 t362).bind fun t391 => (if t391 = true then ((tag_Variant.f kj22 t362).bind fun t392 => (some (!t392))) else (some false))) else (some true))))) else (if t368 = true then ((tag_Extlang.f kj22 t362).bind fun t393 => (if t393 = true then ((tag_Language.f kj22 t362).bind fun t394 => (if t394 = true then ((tag_Script.f kj22 t362).bind fun t395 => (if t395 = true then (some false) else ((tag_Region.f kj22 t362).bind fun t396 => (if t396 = true then (some false) else ((tag_Script.f kj22 t362).bind fun t397 => (if t397 = true then ((tag_Language.f kj22 t362).bind fun t398 => (if t398 = true then ((tag_Variant.f kj22 t362).bind fun t399 => (some (!t399))) else (some false))) else (some true))))))) else (some false))) else ((tag_Script.f kj22 t362).bind fun t400 => (if t400 = true then ((tag_Language.f kj22 t362).bind fun t401 => (if t401 = true then ((tag_Variant.f kj22 t362).bind fun t402 => (some (!t402))) else (some false))) else (some true))))) else (some false)))) else (some false)) = some r := by rw [if_pos rfl] at H; exact H
                                clear H
                                have H := H1
                                clear H1
                                by_cases c32 : x4_18 ≤ 1
                                · rw [if_pos c32] at H
                                  have c32b0 : decide (x4_18 ≤ 1) = true := decide_eq_true c32
                                  clear c32
                                  by_cases c33 : x6_22 = true
                                  · subst c33
                                    have H1 : (if t368 = true then ((tag_Extlang.f kj22 t362).bind fun t373 => (if t373 = true then ((tag_Language.f kj22 t362).bind fun t374 => (if t374 = true then ((tag_Script.f kj22 t362).bind fun t375 => (if t375 = true then (some false) else ((tag_Region.f kj22 t362).bind fun t376 => (if t376 = true then (some false) else ((tag_Script.f kj22 t362).bind fun t377 => (if t377 = true then ((tag_Language.f kj22 t362).bind fun t378 => (if t378 = true then ((tag_Variant.f kj22 t362).bind fun t379 => (some (!t379))) else (some false))) else (some true))))))) else (some false))) else ((tag_Script.f kj22 t362).bind fun t380 => (if t380 = true then ((tag_Language.f kj22 t362).bind fun t381 => (if t381 = true then ((tag_Variant.f kj22 t362).bind fun t382 => (some (!t382))) else (some false))) else (some true))))) else (some false)) = some r := by rw [if_pos rfl] at H; exact H
                                    clear H
                                    have H := H1
                                    clear H1
                                    by_cases c34 : t368 = true
                                    · subst c34
                                      have H1 : ((tag_Extlang.f kj22 t362).bind fun t373 => (if t373 = true then ((tag_Language.f kj22 t362).bind fun t374 => (if t374 = true then ((tag_Script.f kj22 t362).bind fun t375 => (if t375 = true then (some false) else ((tag_Region.f kj22 t362).bind fun t376 => (if t376 = true then (some false) else ((tag_Script.f kj22 t362).bind fun t377 => (if t377 = true then ((tag_Language.f kj22 t362).bind fun t378 => (if t378 = true then ((tag_Variant.f kj22 t362).bind fun t379 => (some (!t379))) else (some false))) else (some true))))))) else (some false))) else ((tag_Script.f kj22 t362).bind fun t380 => (if t380 = true then ((tag_Language.f kj22 t362).bind fun t381 => (if t381 = true then ((tag_Variant.f kj22 t362).bind fun t382 => (some (!t382))) else (some false))) else (some true))))) = some r := by rw [if_pos rfl] at H; exact H
                                      clear H
                                      have H := H1
                                      clear H1
                                      replace H := Option.bind_eq_some_iff.mp H
                                      obtain ⟨t373, A350, H⟩ := H
                                      replace H : (if t373 = true then ((tag_Language.f kj22 t362).bind fun t374 => (if t374 = true then ((tag_Script.f kj22 t362).bind fun t375 => (if t375 = true then (some false) else ((tag_Region.f kj22 t362).bind fun t376 => (if t376 = true then (some false) else ((tag_Script.f kj22 t362).bind fun t377 => (if t377 = true then ((tag_Language.f kj22 t362).bind fun t378 => (if t378 = true then ((tag_Variant.f kj22 t362).bind fun t379 => (some (!t379))) else (some false))) else (some true))))))) else (some false))) else ((tag_Script.f kj22 t362).bind fun t380 => (if t380 = true then ((tag_Language.f kj22 t362).bind fun t381 => (if t381 = true then ((tag_Variant.f kj22 t362).bind fun t382 => (some (!t382))) else (some false))) else (some true)))) = some r := H
                                      have A35 := Aside0.mk A350
                                      clear A350
                                      by_cases c36 : t373 = true
                                      · subst c36
                                        have H1 : ((tag_Language.f kj22 t362).bind fun t374 => (if t374 = true then ((tag_Script.f kj22 t362).bind fun t375 => (if t375 = true then (some false) else ((tag_Region.f kj22 t362).bind fun t376 => (if t376 = true then (some false) else ((tag_Script.f kj22 t362).bind fun t377 => (if t377 = true then ((tag_Language.f kj22 t362).bind fun t378 => (if t378 = true then ((tag_Variant.f kj22 t362).bind fun t379 => (some (!t379))) else (some false))) else (some true))))))) else (some false))) = some r := by rw [if_pos rfl] at H; exact H
                                        clear H
                                        have H := H1
                                        clear H1
                                        replace H := Option.bind_eq_some_iff.mp H
                                        obtain ⟨t374, A370, H⟩ := H
                                        replace H : (if t374 = true then ((tag_Script.f kj22 t362).bind fun t375 => (if t375 = true then (some false) else ((tag_Region.f kj22 t362).bind fun t376 => (if t376 = true then (some false) else ((tag_Script.f kj22 t362).bind fun t377 => (if t377 = true then ((tag_Language.f kj22 t362).bind fun t378 => (if t378 = true then ((tag_Variant.f kj22 t362).bind fun t379 => (some (!t379))) else (some false))) else (some true))))))) else (some false)) = some r := H
                                        have A37 := Aside0.mk A370
                                        clear A370
                                        by_cases c38 : t374 = true
                                        · subst c38
                                          have H1 : ((tag_Script.f kj22 t362).bind fun t375 => (if t375 = true then (some false) else ((tag_Region.f kj22 t362).bind fun t376 => (if t376 = true then (some false) else ((tag_Script.f kj22 t362).bind fun t377 => (if t377 = true then ((tag_Language.f kj22 t362).bind fun t378 => (if t378 = true then ((tag_Variant.f kj22 t362).bind fun t379 => (some (!t379))) else (some false))) else (some true))))))) = some r := by rw [if_pos rfl] at H; exact H
                                          clear H
                                          have H := H1
                                          clear H1
                                          replace H := Option.bind_eq_some_iff.mp H
                                          obtain ⟨t375, A390, H⟩ := H
                                          replace H : (if t375 = true then (some false) else ((tag_Region.f kj22 t362).bind fun t376 => (if t376 = true then (some false) else ((tag_Script.f kj22 t362).bind fun t377 => (if t377 = true then ((tag_Language.f kj22 t362).bind fun t378 => (if t378 = true then ((tag_Variant.f kj22 t362).bind fun t379 => (some (!t379))) else (some false))) else (some true)))))) = some r := H
                                          have A39 := Aside0.mk A390
                                          clear A390
                                          by_cases c40 : t375 = true
                                          · subst c40
                                            have H1 : (some false) = some r := by rw [if_pos rfl] at H; exact H
                                            clear H
                                            have H := H1
                                            clear H1
                                            obtain rfl := Option.some.inj H
                                            go_wp2_with (first | (go_at_call 24; (with_reducible refine (tag_Extlang.calls kj22 t362 true _ A35.out).mono ?_); rintro e w' ⟨rfl, ⟨nd, rfl⟩⟩) | (go_at_call 18; (with_reducible refine (tag_Language.calls kj22 t362 true _ A37.out).mono ?_); rintro e w' ⟨rfl, ⟨nd, rfl⟩⟩) | (go_at_call 25; (with_reducible refine (tag_Script.calls kj22 t362 true _ A39.out).mono ?_); rintro e w' ⟨rfl, ⟨nd, rfl⟩⟩))
                                            go_ret
                                            exact ⟨by first | rfl | (simp [errW_none, errW_some] <;> rfl) | (simp [*, errW_none, errW_some] <;> rfl), by repeat (first | (with_reducible first | exact HB.out | apply below_alloc | apply pw_below_drewN | apply below_drew1) | exact HB.out)⟩
                                          · replace c40 := Bool.eq_false_iff.mpr c40
                                            subst c40
                                            have H1 : ((tag_Region.f kj22 t362).bind fun t376 => (if t376 = true then (some false) else ((tag_Script.f kj22 t362).bind fun t377 => (if t377 = true then ((tag_Language.f kj22 t362).bind fun t378 => (if t378 = true then ((tag_Variant.f kj22 t362).bind fun t379 => (some (!t379))) else (some false))) else (some true))))) = some r := by rw [if_neg (show ¬ (false = true) by decide)] at H; exact H
                                            clear H
                                            have H := H1
                                            clear H1
                                            replace H := Option.bind_eq_some_iff.mp H
                                            obtain ⟨t376, A410, H⟩ := H
                                            replace H : (if t376 = true then (some false) else ((tag_Script.f kj22 t362).bind fun t377 => (if t377 = true then ((tag_Language.f kj22 t362).bind fun t378 => (if t378 = true then ((tag_Variant.f kj22 t362).bind fun t379 => (some (!t379))) else (some false))) else (some true)))) = some r := H
                                            have A41 := Aside0.mk A410
                                            clear A410
                                            by_cases c42 : t376 = true
                                            · subst c42
                                              have H1 : (some false) = some r := by rw [if_pos rfl] at H; exact H
                                              clear H
                                              have H := H1
                                              clear H1
                                              obtain rfl := Option.some.inj H
                                              go_wp2_with (first | (go_at_call 24; (with_reducible refine (tag_Extlang.calls kj22 t362 true _ A35.out).mono ?_); rintro e w' ⟨rfl, ⟨nd, rfl⟩⟩) | (go_at_call 18; (with_reducible refine (tag_Language.calls kj22 t362 true _ A37.out).mono ?_); rintro e w' ⟨rfl, ⟨nd, rfl⟩⟩) | (go_at_call 25; (with_reducible refine (tag_Script.calls kj22 t362 false _ A39.out).mono ?_); rintro e w' ⟨rfl, ⟨nd, rfl⟩⟩) | (go_at_call 19; (with_reducible refine (tag_Region.calls kj22 t362 true _ A41.out).mono ?_); rintro e w' ⟨rfl, ⟨nd, rfl⟩⟩))
                                              go_ret
                                              exact ⟨by first | rfl | (simp [errW_none, errW_some] <;> rfl) | (simp [*, errW_none, errW_some] <;> rfl), by repeat (first | (with_reducible first | exact HB.out | apply below_alloc | apply pw_below_drewN | apply below_drew1) | exact HB.out)⟩
                                            · replace c42 := Bool.eq_false_iff.mpr c42
                                              subst c42
                                              have H1 : ((tag_Script.f kj22 t362).bind fun t377 => (if t377 = true then ((tag_Language.f kj22 t362).bind fun t378 => (if t378 = true then ((tag_Variant.f kj22 t362).bind fun t379 => (some (!t379))) else (some false))) else (some true))) = some r := by rw [if_neg (show ¬ (false = true) by decide)] at H; exact H
                                              clear H
                                              have H := H1
                                              clear H1
                                              replace H := Option.bind_eq_some_iff.mp H
                                              obtain ⟨t377, A430, H⟩ := H
                                              replace H : (if t377 = true then ((tag_Language.f kj22 t362).bind fun t378 => (if t378 = true then ((tag_Variant.f kj22 t362).bind fun t379 => (some (!t379))) else (some false))) else (some true)) = some r := H
                                              have A43 := Aside0.mk A430
                                              clear A430
                                              by_cases c44 : t377 = true
                                              · subst c44
                                                have H1 : ((tag_Language.f kj22 t362).bind fun t378 => (if t378 = true then ((tag_Variant.f kj22 t362).bind fun t379 => (some (!t379))) else (some false))) = some r := by rw [if_pos rfl] at H; exact H
                                                clear H
                                                have H := H1
                                                clear H1
                                                replace H := Option.bind_eq_some_iff.mp H
                                                obtain ⟨t378, A450, H⟩ := H
                                                replace H : (if t378 = true then ((tag_Variant.f kj22 t362).bind fun t379 => (some (!t379))) else (some false)) = some r := H
                                                have A45 := Aside0.mk A450
                                                clear A450
                                                by_cases c46 : t378 = true
                                                · subst c46
                                                  have H1 : ((tag_Variant.f kj22 t362).bind fun t379 => (some (!t379))) = some r := by rw [if_pos rfl] at H; exact H
                                                  clear H
                                                  have H := H1
                                                  clear H1
                                                  replace H := Option.bind_eq_some_iff.mp H
                                                  obtain ⟨t379, A470, H⟩ := H
                                                  replace H : (some (!t379)) = some r := H
                                                  have A47 := Aside0.mk A470
                                                  clear A470
                                                  obtain rfl := Option.some.inj H
                                                  exact absurd (Option.some.inj (A39.out.symm.trans A43.out)) (by decide)
                                                · replace c46 := Bool.eq_false_iff.mpr c46
                                                  subst c46
                                                  have H1 : (some false) = some r := by rw [if_neg (show ¬ (false = true) by decide)] at H; exact H
                                                  clear H
                                                  have H := H1
                                                  clear H1
                                                  obtain rfl := Option.some.inj H
                                                  exact absurd (Option.some.inj (A39.out.symm.trans A43.out)) (by decide)
                                              · replace c44 := Bool.eq_false_iff.mpr c44
                                                subst c44
                                                have H1 : (some true) = some r := by rw [if_neg (show ¬ (false = true) by decide)] at H; exact H
                                                clear H
                                                have H := H1
                                                clear H1
                                                obtain rfl := Option.some.inj H
                                                go_wp2_with (first | (go_at_call 24; (with_reducible refine (tag_Extlang.calls kj22 t362 true _ A35.out).mono ?_); rintro e w' ⟨rfl, ⟨nd, rfl⟩⟩) | (go_at_call 18; (with_reducible refine (tag_Language.calls kj22 t362 true _ A37.out).mono ?_); rintro e w' ⟨rfl, ⟨nd, rfl⟩⟩) | (go_at_call 25; (with_reducible refine (tag_Script.calls kj22 t362 false _ A39.out).mono ?_); rintro e w' ⟨rfl, ⟨nd, rfl⟩⟩) | (go_at_call 19; (with_reducible refine (tag_Region.calls kj22 t362 false _ A41.out).mono ?_); rintro e w' ⟨rfl, ⟨nd, rfl⟩⟩) | (go_at_call 25; (with_reducible refine (tag_Script.calls kj22 t362 false _ A43.out).mono ?_); rintro e w' ⟨rfl, ⟨nd, rfl⟩⟩))
                                                go_ret
                                                exact ⟨by first | rfl | (simp [errW_none, errW_some] <;> rfl) | (simp [*, errW_none, errW_some] <;> rfl), by repeat (first | (with_reducible first | exact HB.out | apply below_alloc | apply pw_below_drewN | apply below_drew1) | exact HB.out)⟩
                                        · replace c38 := Bool.eq_false_iff.mpr c38
                                          subst c38
                                          have H1 : (some false) = some r := by rw [if_neg (show ¬ (false = true) by decide)] at H; exact H
                                          clear H
                                          have H := H1
                                          clear H1
                                          obtain rfl := Option.some.inj H
                                          go_wp2_with (first | (go_at_call 24; (with_reducible refine (tag_Extlang.calls kj22 t362 true _ A35.out).mono ?_); rintro e w' ⟨rfl, ⟨nd, rfl⟩⟩) | (go_at_call 18; (with_reducible refine (tag_Language.calls kj22 t362 false _ A37.out).mono ?_); rintro e w' ⟨rfl, ⟨nd, rfl⟩⟩))
                                          go_ret
                                          exact ⟨by first | rfl | (simp [errW_none, errW_some] <;> rfl) | (simp [*, errW_none, errW_some] <;> rfl), by repeat (first | (with_reducible first | exact HB.out | apply below_alloc | apply pw_below_drewN | apply below_drew1) | exact HB.out)⟩
                                      · replace c36 := Bool.eq_false_iff.mpr c36
                                        subst c36
                                        have H1 : ((tag_Script.f kj22 t362).bind fun t380 => (if t380 = true then ((tag_Language.f kj22 t362).bind fun t381 => (if t381 = true then ((tag_Variant.f kj22 t362).bind fun t382 => (some (!t382))) else (some false))) else (some true))) = some r := by rw [if_neg (show ¬ (false = true) by decide)] at H; exact H
                                        clear H
                                        have H := H1
                                        clear H1
                                        replace H := Option.bind_eq_some_iff.mp H
                                        obtain ⟨t380, A480, H⟩ := H
                                        replace H : (if t380 = true then ((tag_Language.f kj22 t362).bind fun t381 => (if t381 = true then ((tag_Variant.f kj22 t362).bind fun t382 => (some (!t382))) else (some false))) else (some true)) = some r := H
                                        have A48 := Aside0.mk A480
                                        clear A480
                                        by_cases c49 : t380 = true
                                        · subst c49
                                          have H1 : ((tag_Language.f kj22 t362).bind fun t381 => (if t381 = true then ((tag_Variant.f kj22 t362).bind fun t382 => (some (!t382))) else (some false))) = some r := by rw [if_pos rfl] at H; exact H
                                          clear H
                                          have H := H1
                                          clear H1
                                          replace H := Option.bind_eq_some_iff.mp H
                                          obtain ⟨t381, A500, H⟩ := H
                                          replace H : (if t381 = true then ((tag_Variant.f kj22 t362).bind fun t382 => (some (!t382))) else (some false)) = some r := H
                                          have A50 := Aside0.mk A500
                                          clear A500
                                          by_cases c51 : t381 = true
                                          · subst c51
                                            have H1 : ((tag_Variant.f kj22 t362).bind fun t382 => (some (!t382))) = some r := by rw [if_pos rfl] at H; exact H
                                            clear H
                                            have H := H1
                                            clear H1
                                            replace H := Option.bind_eq_some_iff.mp H
                                            obtain ⟨t382, A520, H⟩ := H
                                            replace H : (some (!t382)) = some r := H
                                            have A52 := Aside0.mk A520
                                            clear A520
                                            obtain rfl := Option.some.inj H
                                            go_wp2_with (first | (go_at_call 24; (with_reducible refine (tag_Extlang.calls kj22 t362 false _ A35.out).mono ?_); rintro e w' ⟨rfl, ⟨nd, rfl⟩⟩) | (go_at_call 25; (with_reducible refine (tag_Script.calls kj22 t362 true _ A48.out).mono ?_); rintro e w' ⟨rfl, ⟨nd, rfl⟩⟩) | (go_at_call 18; (with_reducible refine (tag_Language.calls kj22 t362 true _ A50.out).mono ?_); rintro e w' ⟨rfl, ⟨nd, rfl⟩⟩) | (go_at_call 20; (with_reducible refine (tag_Variant.calls kj22 t362 t382 _ A52.out).mono ?_); rintro e w' ⟨rfl, ⟨nd, rfl⟩⟩))
                                            go_ret
                                            exact ⟨by first | rfl | (simp [errW_none, errW_some] <;> rfl) | (simp [*, errW_none, errW_some] <;> rfl), by repeat (first | (with_reducible first | exact HB.out | apply below_alloc | apply pw_below_drewN | apply below_drew1) | exact HB.out)⟩
                                          · replace c51 := Bool.eq_false_iff.mpr c51
                                            subst c51
                                            have H1 : (some false) = some r := by rw [if_neg (show ¬ (false = true) by decide)] at H; exact H
                                            clear H
                                            have H := H1
                                            clear H1
                                            obtain rfl := Option.some.inj H
                                            go_wp2_with (first | (go_at_call 24; (with_reducible refine (tag_Extlang.calls kj22 t362 false _ A35.out).mono ?_); rintro e w' ⟨rfl, ⟨nd, rfl⟩⟩) | (go_at_call 25; (with_reducible refine (tag_Script.calls kj22 t362 true _ A48.out).mono ?_); rintro e w' ⟨rfl, ⟨nd, rfl⟩⟩) | (go_at_call 18; (with_reducible refine (tag_Language.calls kj22 t362 false _ A50.out).mono ?_); rintro e w' ⟨rfl, ⟨nd, rfl⟩⟩))
                                            go_ret
                                            exact ⟨by first | rfl | (simp [errW_none, errW_some] <;> rfl) | (simp [*, errW_none, errW_some] <;> rfl), by repeat (first | (with_reducible first | exact HB.out | apply below_alloc | apply pw_below_drewN | apply below_drew1) | exact HB.out)⟩
                                        · replace c49 := Bool.eq_false_iff.mpr c49
                                          subst c49
                                          have H1 : (some true) = some r := by rw [if_neg (show ¬ (false = true) by decide)] at H; exact H
                                          clear H
                                          have H := H1
                                          clear H1
                                          obtain rfl := Option.some.inj H
                                          go_wp2_with (first | (go_at_call 24; (with_reducible refine (tag_Extlang.calls kj22 t362 false _ A35.out).mono ?_); rintro e w' ⟨rfl, ⟨nd, rfl⟩⟩) | (go_at_call 25; (with_reducible refine (tag_Script.calls kj22 t362 false _ A48.out).mono ?_); rintro e w' ⟨rfl, ⟨nd, rfl⟩⟩))
                                          go_ret
                                          exact ⟨by first | rfl | (simp [errW_none, errW_some] <;> rfl) | (simp [*, errW_none, errW_some] <;> rfl), by repeat (first | (with_reducible first | exact HB.out | apply below_alloc | apply pw_below_drewN | apply below_drew1) | exact HB.out)⟩
                                    · replace c34 := Bool.eq_false_iff.mpr c34
                                      subst c34
                                      have H1 : (some false) = some r := by rw [if_neg (show ¬ (false = true) by decide)] at H; exact H
                                      clear H
                                      have H := H1
                                      clear H1
                                      obtain rfl := Option.some.inj H
                                      go_wp2
                                      go_ret
                                      exact ⟨by first | rfl | (simp [errW_none, errW_some] <;> rfl) | (simp [*, errW_none, errW_some] <;> rfl), by repeat (first | (with_reducible first | exact HB.out | apply below_alloc | apply pw_below_drewN | apply below_drew1) | exact HB.out)⟩
                                  · replace c33 := Bool.eq_false_iff.mpr c33
                                    subst c33
                                    have H1 : (if x4_18 = 0 then ((tag_Extlang.f kj22 t362).bind fun t383 => (if t383 = true then ((tag_Language.f kj22 t362).bind fun t384 => (if t384 = true then ((tag_Script.f kj22 t362).bind fun t385 => (if t385 = true then (some false) else ((tag_Region.f kj22 t362).bind fun t386 => (if t386 = true then (some false) else ((tag_Script.f kj22 t362).bind fun t387 => (if t387 = true then ((tag_Language.f kj22 t362).bind fun t388 => (if t388 = true then ((tag_Variant.f kj22 t362).bind fun t389 => (some (!t389))) else (some false))) else (some true))))))) else (some false))) else ((tag_Script.f kj22 t362).bind fun t390 => (if t390 = true then ((tag_Language.f kj22 t362).bind fun t391 => (if t391 = true then ((tag_Variant.f kj22 t362).bind fun t392 => (some (!t392))) else (some false))) else (some true))))) else (if t368 = true then ((tag_Extlang.f kj22 t362).bind fun t393 => (if t393 = true then ((tag_Language.f kj22 t362).bind fun t394 => (if t394 = true then ((tag_Script.f kj22 t362).bind fun t395 => (if t395 = true then (some false) else ((tag_Region.f kj22 t362).bind fun t396 => (if t396 = true then (some false) else ((tag_Script.f kj22 t362).bind fun t397 => (if t397 = true then ((tag_Language.f kj22 t362).bind fun t398 => (if t398 = true then ((tag_Variant.f kj22 t362).bind fun t399 => (some (!t399))) else (some false))) else (some true))))))) else (some false))) else ((tag_Script.f kj22 t362).bind fun t400 => (if t400 = true then ((tag_Language.f kj22 t362).bind fun t401 => (if t401 = true then ((tag_Variant.f kj22 t362).bind fun t402 => (some (!t402))) else (some false))) else (some true))))) else (some false))) = some r := by rw [if_neg (show ¬ (false = true) by decide)] at H; exact H
                                    clear H
                                    have H := H1
                                    clear H1
                                    by_cases c53 : x4_18 = 0
                                    · rw [if_pos c53] at H
                                      have c53b0 : (x4_18 == 0) = true := beq_iff_eq.mpr c53
                                      have c53b1 : (x4_18 != 0) = false := bne_eq_false_iff_eq.mpr c53
                                      clear c53
                                      replace H := Option.bind_eq_some_iff.mp H
                                      obtain ⟨t383, A540, H⟩ := H
                                      replace H : (if t383 = true then ((tag_Language.f kj22 t362).bind fun t384 => (if t384 = true then ((tag_Script.f kj22 t362).bind fun t385 => (if t385 = true then (some false) else ((tag_Region.f kj22 t362).bind fun t386 => (if t386 = true then (some false) else ((tag_Script.f kj22 t362).bind fun t387 => (if t387 = true then ((tag_Language.f kj22 t362).bind fun t388 => (if t388 = true then ((tag_Variant.f kj22 t362).bind fun t389 => (some (!t389))) else (some false))) else (some true))))))) else (some false))) else ((tag_Script.f kj22 t362).bind fun t390 => (if t390 = true then ((tag_Language.f kj22 t362).bind fun t391 => (if t391 = true then ((tag_Variant.f kj22 t362).bind fun t392 => (some (!t392))) else (some false))) else (some true)))) = some r := H
                                      have A54 := Aside0.mk A540
                                      clear A540
                                      by_cases c55 : t383 = true
                                      · subst c55
                                        have H1 : ((tag_Language.f kj22 t362).bind fun t384 => (if t384 = true then ((tag_Script.f kj22 t362).bind fun t385 => (if t385 = true then (some false) else ((tag_Region.f kj22 t362).bind fun t386 => (if t386 = true then (some false) else ((tag_Script.f kj22 t362).bind fun t387 => (if t387 = true then ((tag_Language.f kj22 t362).bind fun t388 => (if t388 = true then ((tag_Variant.f kj22 t362).bind fun t389 => (some (!t389))) else (some false))) else (some true))))))) else (some false))) = some r := by rw [if_pos rfl] at H; exact H
                                        clear H
                                        have H := H1
                                        clear H1
                                        replace H := Option.bind_eq_some_iff.mp H
                                        obtain ⟨t384, A560, H⟩ := H
                                        replace H : (if t384 = true then ((tag_Script.f kj22 t362).bind fun t385 => (if t385 = true then (some false) else ((tag_Region.f kj22 t362).bind fun t386 => (if t386 = true then (some false) else ((tag_Script.f kj22 t362).bind fun t387 => (if t387 = true then ((tag_Language.f kj22 t362).bind fun t388 => (if t388 = true then ((tag_Variant.f kj22 t362).bind fun t389 => (some (!t389))) else (some false))) else (some true))))))) else (some false)) = some r := H
                                        have A56 := Aside0.mk A560
                                        clear A560
                                        by_cases c57 : t384 = true
                                        · subst c57
                                          have H1 : ((tag_Script.f kj22 t362).bind fun t385 => (if t385 = true then (some false) else ((tag_Region.f kj22 t362).bind fun t386 => (if t386 = true then (some false) else ((tag_Script.f kj22 t362).bind fun t387 => (if t387 = true then ((tag_Language.f kj22 t362).bind fun t388 => (if t388 = true then ((tag_Variant.f kj22 t362).bind fun t389 => (some (!t389))) else (some false))) else (some true))))))) = some r := by rw [if_pos rfl] at H; exact H
                                          clear H
                                          have H := H1
                                          clear H1
                                          replace H := Option.bind_eq_some_iff.mp H
                                          obtain ⟨t385, A580, H⟩ := H
                                          replace H : (if t385 = true then (some false) else ((tag_Region.f kj22 t362).bind fun t386 => (if t386 = true then (some false) else ((tag_Script.f kj22 t362).bind fun t387 => (if t387 = true then ((tag_Language.f kj22 t362).bind fun t388 => (if t388 = true then ((tag_Variant.f kj22 t362).bind fun t389 => (some (!t389))) else (some false))) else (some true)))))) = some r := H
                                          have A58 := Aside0.mk A580
                                          clear A580
                                          by_cases c59 : t385 = true
                                          · subst c59
                                            have H1 : (some false) = some r := by rw [if_pos rfl] at H; exact H
                                            clear H
                                            have H := H1
                                            clear H1
                                            obtain rfl := Option.some.inj H
                                            go_wp2_with (first | (go_at_call 24; (with_reducible refine (tag_Extlang.calls kj22 t362 true _ A54.out).mono ?_); rintro e w' ⟨rfl, ⟨nd, rfl⟩⟩) | (go_at_call 18; (with_reducible refine (tag_Language.calls kj22 t362 true _ A56.out).mono ?_); rintro e w' ⟨rfl, ⟨nd, rfl⟩⟩) | (go_at_call 25; (with_reducible refine (tag_Script.calls kj22 t362 true _ A58.out).mono ?_); rintro e w' ⟨rfl, ⟨nd, rfl⟩⟩))
                                            go_ret
                                            exact ⟨by first | rfl | (simp [errW_none, errW_some] <;> rfl) | (simp [*, errW_none, errW_some] <;> rfl), by repeat (first | (with_reducible first | exact HB.out | apply below_alloc | apply pw_below_drewN | apply below_drew1) | exact HB.out)⟩
                                          · replace c59 := Bool.eq_false_iff.mpr c59
                                            subst c59
                                            have H1 : ((tag_Region.f kj22 t362).bind fun t386 => (if t386 = true then (some false) else ((tag_Script.f kj22 t362).bind fun t387 => (if t387 = true then ((tag_Language.f kj22 t362).bind fun t388 => (if t388 = true then ((tag_Variant.f kj22 t362).bind fun t389 => (some (!t389))) else (some false))) else (some true))))) = some r := by rw [if_neg (show ¬ (false = true) by decide)] at H; exact H
                                            clear H
                                            have H := H1
                                            clear H1
                                            replace H := Option.bind_eq_some_iff.mp H
                                            obtain ⟨t386, A600, H⟩ := H
                                            replace H : (if t386 = true then (some false) else ((tag_Script.f kj22 t362).bind fun t387 => (if t387 = true then ((tag_Language.f kj22 t362).bind fun t388 => (if t388 = true then ((tag_Variant.f kj22 t362).bind fun t389 => (some (!t389))) else (some false))) else (some true)))) = some r := H
                                            have A60 := Aside0.mk A600
                                            clear A600
                                            by_cases c61 : t386 = true
                                            · subst c61
                                              have H1 : (some false) = some r := by rw [if_pos rfl] at H; exact H
                                              clear H
                                              have H := H1
                                              clear H1
                                              obtain rfl := Option.some.inj H
                                              go_wp2_with (first | (go_at_call 24; (with_reducible refine (tag_Extlang.calls kj22 t362 true _ A54.out).mono ?_); rintro e w' ⟨rfl, ⟨nd, rfl⟩⟩) | (go_at_call 18; (with_reducible refine (tag_Language.calls kj22 t362 true _ A56.out).mono ?_); rintro e w' ⟨rfl, ⟨nd, rfl⟩⟩) | (go_at_call 25; (with_reducible refine (tag_Script.calls kj22 t362 false _ A58.out).mono ?_); rintro e w' ⟨rfl, ⟨nd, rfl⟩⟩) | (go_at_call 19; (with_reducible refine (tag_Region.calls kj22 t362 true _ A60.out).mono ?_); rintro e w' ⟨rfl, ⟨nd, rfl⟩⟩))
                                              go_ret
                                              exact ⟨by first | rfl | (simp [errW_none, errW_some] <;> rfl) | (simp [*, errW_none, errW_some] <;> rfl), by repeat (first | (with_reducible first | exact HB.out | apply below_alloc | apply pw_below_drewN | apply below_drew1) | exact HB.out)⟩
                                            · replace c61 := Bool.eq_false_iff.mpr c61
                                              subst c61
                                              have H1 : ((tag_Script.f kj22 t362).bind fun t387 => (if t387 = true then ((tag_Language.f kj22 t362).bind fun t388 => (if t388 = true then ((tag_Variant.f kj22 t362).bind fun t389 => (some (!t389))) else (some false))) else (some true))) = some r := by rw [if_neg (show ¬ (false = true) by decide)] at H; exact H
                                              clear H
                                              have H := H1
                                              clear H1
                                              replace H := Option.bind_eq_some_iff.mp H
                                              obtain ⟨t387, A620, H⟩ := H
                                              replace H : (if t387 = true then ((tag_Language.f kj22 t362).bind fun t388 => (if t388 = true then ((tag_Variant.f kj22 t362).bind fun t389 => (some (!t389))) else (some false))) else (some true)) = some r := H
                                              have A62 := Aside0.mk A620
                                              clear A620
                                              by_cases c63 : t387 = true
                                              · subst c63
                                                have H1 : ((tag_Language.f kj22 t362).bind fun t388 => (if t388 = true then ((tag_Variant.f kj22 t362).bind fun t389 => (some (!t389))) else (some false))) = some r := by rw [if_pos rfl] at H; exact H
                                                clear H
                                                have H := H1
                                                clear H1
                                                replace H := Option.bind_eq_some_iff.mp H
                                                obtain ⟨t388, A640, H⟩ := H
                                                replace H : (if t388 = true then ((tag_Variant.f kj22 t362).bind fun t389 => (some (!t389))) else (some false)) = some r := H
                                                have A64 := Aside0.mk A640
                                                clear A640
                                                by_cases c65 : t388 = true
                                                · subst c65
                                                  have H1 : ((tag_Variant.f kj22 t362).bind fun t389 => (some (!t389))) = some r := by rw [if_pos rfl] at H; exact H
                                                  clear H
                                                  have H := H1
                                                  clear H1
                                                  replace H := Option.bind_eq_some_iff.mp H
                                                  obtain ⟨t389, A660, H⟩ := H
                                                  replace H : (some (!t389)) = some r := H
                                                  have A66 := Aside0.mk A660
                                                  clear A660
                                                  obtain rfl := Option.some.inj H
                                                  exact absurd (Option.some.inj (A58.out.symm.trans A62.out)) (by decide)
                                                · replace c65 := Bool.eq_false_iff.mpr c65
                                                  subst c65
                                                  have H1 : (some false) = some r := by rw [if_neg (show ¬ (false = true) by decide)] at H; exact H
                                                  clear H
                                                  have H := H1
                                                  clear H1
                                                  obtain rfl := Option.some.inj H
                                                  exact absurd (Option.some.inj (A58.out.symm.trans A62.out)) (by decide)
                                              · replace c63 := Bool.eq_false_iff.mpr c63
                                                subst c63
                                                have H1 : (some true) = some r := by rw [if_neg (show ¬ (false = true) by decide)] at H; exact H
                                                clear H
                                                have H := H1
                                                clear H1
                                                obtain rfl := Option.some.inj H
                                                go_wp2_with (first | (go_at_call 24; (with_reducible refine (tag_Extlang.calls kj22 t362 true _ A54.out).mono ?_); rintro e w' ⟨rfl, ⟨nd, rfl⟩⟩) | (go_at_call 18; (with_reducible refine (tag_Language.calls kj22 t362 true _ A56.out).mono ?_); rintro e w' ⟨rfl, ⟨nd, rfl⟩⟩) | (go_at_call 25; (with_reducible refine (tag_Script.calls kj22 t362 false _ A58.out).mono ?_); rintro e w' ⟨rfl, ⟨nd, rfl⟩⟩) | (go_at_call 19; (with_reducible refine (tag_Region.calls kj22 t362 false _ A60.out).mono ?_); rintro e w' ⟨rfl, ⟨nd, rfl⟩⟩) | (go_at_call 25; (with_reducible refine (tag_Script.calls kj22 t362 false _ A62.out).mono ?_); rintro e w' ⟨rfl, ⟨nd, rfl⟩⟩))
                                                go_ret
                                                exact ⟨by first | rfl | (simp [errW_none, errW_some] <;> rfl) | (simp [*, errW_none, errW_some] <;> rfl), by repeat (first | (with_reducible first | exact HB.out | apply below_alloc | apply pw_below_drewN | apply below_drew1) | exact HB.out)⟩
                                        · replace c57 := Bool.eq_false_iff.mpr c57
                                          subst c57
                                          have H1 : (some false) = some r := by rw [if_neg (show ¬ (false = true) by decide)] at H; exact H
                                          clear H
                                          have H := H1
                                          clear H1
                                          obtain rfl := Option.some.inj H
                                          go_wp2_with (first | (go_at_call 24; (with_reducible refine (tag_Extlang.calls kj22 t362 true _ A54.out).mono ?_); rintro e w' ⟨rfl, ⟨nd, rfl⟩⟩) | (go_at_call 18; (with_reducible refine (tag_Language.calls kj22 t362 false _ A56.out).mono ?_); rintro e w' ⟨rfl, ⟨nd, rfl⟩⟩))
                                          go_ret
                                          exact ⟨by first | rfl | (simp [errW_none, errW_some] <;> rfl) | (simp [*, errW_none, errW_some] <;> rfl), by repeat (first | (with_reducible first | exact HB.out | apply below_alloc | apply pw_below_drewN | apply below_drew1) | exact HB.out)⟩
                                      · replace c55 := Bool.eq_false_iff.mpr c55
                                        subst c55
                                        have H1 : ((tag_Script.f kj22 t362).bind fun t390 => (if t390 = true then ((tag_Language.f kj22 t362).bind fun t391 => (if t391 = true then ((tag_Variant.f kj22 t362).bind fun t392 => (some (!t392))) else (some false))) else (some true))) = some r := by rw [if_neg (show ¬ (false = true) by decide)] at H; exact H
                                        clear H
                                        have H := H1
                                        clear H1
                                        replace H := Option.bind_eq_some_iff.mp H
                                        obtain ⟨t390, A670, H⟩ := H
                                        replace H : (if t390 = true then ((tag_Language.f kj22 t362).bind fun t391 => (if t391 = true then ((tag_Variant.f kj22 t362).bind fun t392 => (some (!t392))) else (some false))) else (some true)) = some r := H
                                        have A67 := Aside0.mk A670
                                        clear A670
                                        by_cases c68 : t390 = true
                                        · subst c68
                                          have H1 : ((tag_Language.f kj22 t362).bind fun t391 => (if t391 = true then ((tag_Variant.f kj22 t362).bind fun t392 => (some (!t392))) else (some false))) = some r := by rw [if_pos rfl] at H; exact H
                                          clear H
                                          have H := H1
                                          clear H1
                                          replace H := Option.bind_eq_some_iff.mp H
                                          obtain ⟨t391, A690, H⟩ := H
                                          replace H : (if t391 = true then ((tag_Variant.f kj22 t362).bind fun t392 => (some (!t392))) else (some false)) = some r := H
                                          have A69 := Aside0.mk A690
                                          clear A690
                                          by_cases c70 : t391 = true
                                          · subst c70
                                            have H1 : ((tag_Variant.f kj22 t362).bind fun t392 => (some (!t392))) = some r := by rw [if_pos rfl] at H; exact H
                                            clear H
                                            have H := H1
                                            clear H1
                                            replace H := Option.bind_eq_some_iff.mp H
                                            obtain ⟨t392, A710, H⟩ := H
                                            replace H : (some (!t392)) = some r := H
                                            have A71 := Aside0.mk A710
                                            clear A710
                                            obtain rfl := Option.some.inj H
                                            go_wp2_with (first | (go_at_call 24; (with_reducible refine (tag_Extlang.calls kj22 t362 false _ A54.out).mono ?_); rintro e w' ⟨rfl, ⟨nd, rfl⟩⟩) | (go_at_call 25; (with_reducible refine (tag_Script.calls kj22 t362 true _ A67.out).mono ?_); rintro e w' ⟨rfl, ⟨nd, rfl⟩⟩) | (go_at_call 18; (with_reducible refine (tag_Language.calls kj22 t362 true _ A69.out).mono ?_); rintro e w' ⟨rfl, ⟨nd, rfl⟩⟩) | (go_at_call 20; (with_reducible refine (tag_Variant.calls kj22 t362 t392 _ A71.out).mono ?_); rintro e w' ⟨rfl, ⟨nd, rfl⟩⟩))
                                            go_ret
                                            exact ⟨by first | rfl | (simp [errW_none, errW_some] <;> rfl) | (simp [*, errW_none, errW_some] <;> rfl), by repeat (first | (with_reducible first | exact HB.out | apply below_alloc | apply pw_below_drewN | apply below_drew1) | exact HB.out)⟩
                                          · replace c70 := Bool.eq_false_iff.mpr c70
                                            subst c70
                                            have H1 : (some false) = some r := by rw [if_neg (show ¬ (false = true) by decide)] at H; exact H
                                            clear H
                                            have H := H1
                                            clear H1
                                            obtain rfl := Option.some.inj H
                                            go_wp2_with (first | (go_at_call 24; (with_reducible refine (tag_Extlang.calls kj22 t362 false _ A54.out).mono ?_); rintro e w' ⟨rfl, ⟨nd, rfl⟩⟩) | (go_at_call 25; (with_reducible refine (tag_Script.calls kj22 t362 true _ A67.out).mono ?_); rintro e w' ⟨rfl, ⟨nd, rfl⟩⟩) | (go_at_call 18; (with_reducible refine (tag_Language.calls kj22 t362 false _ A69.out).mono ?_); rintro e w' ⟨rfl, ⟨nd, rfl⟩⟩))
                                            go_ret
                                            exact ⟨by first | rfl | (simp [errW_none, errW_some] <;> rfl) | (simp [*, errW_none, errW_some] <;> rfl), by repeat (first | (with_reducible first | exact HB.out | apply below_alloc | apply pw_below_drewN | apply below_drew1) | exact HB.out)⟩
                                        · replace c68 := Bool.eq_false_iff.mpr c68
                                          subst c68
                                          have H1 : (some true) = some r := by rw [if_neg (show ¬ (false = true) by decide)] at H; exact H
                                          clear H
                                          have H := H1
                                          clear H1
                                          obtain rfl := Option.some.inj H
                                          go_wp2_with (first | (go_at_call 24; (with_reducible refine (tag_Extlang.calls kj22 t362 false _ A54.out).mono ?_); rintro e w' ⟨rfl, ⟨nd, rfl⟩⟩) | (go_at_call 25; (with_reducible refine (tag_Script.calls kj22 t362 false _ A67.out).mono ?_); rintro e w' ⟨rfl, ⟨nd, rfl⟩⟩))
                                          go_ret
                                          exact ⟨by first | rfl | (simp [errW_none, errW_some] <;> rfl) | (simp [*, errW_none, errW_some] <;> rfl), by repeat (first | (with_reducible first | exact HB.out | apply below_alloc | apply pw_below_drewN | apply below_drew1) | exact HB.out)⟩
                                    · rw [if_neg c53] at H
                                      have c53b0 : (x4_18 == 0) = false := beq_eq_false_iff_ne.mpr c53
                                      have c53b1 : (x4_18 != 0) = true := bne_iff_ne.mpr c53
                                      by_cases c72 : t368 = true
                                      · subst c72
                                        have H1 : ((tag_Extlang.f kj22 t362).bind fun t393 => (if t393 = true then ((tag_Language.f kj22 t362).bind fun t394 => (if t394 = true then ((tag_Script.f kj22 t362).bind fun t395 => (if t395 = true then (some false) else ((tag_Region.f kj22 t362).bind fun t396 => (if t396 = true then (some false) else ((tag_Script.f kj22 t362).bind fun t397 => (if t397 = true then ((tag_Language.f kj22 t362).bind fun t398 => (if t398 = true then ((tag_Variant.f kj22 t362).bind fun t399 => (some (!t399))) else (some false))) else (some true))))))) else (some false))) else ((tag_Script.f kj22 t362).bind fun t400 => (if t400 = true then ((tag_Language.f kj22 t362).bind fun t401 => (if t401 = true then ((tag_Variant.f kj22 t362).bind fun t402 => (some (!t402))) else (some false))) else (some true))))) = some r := by rw [if_pos rfl] at H; exact H
                                        clear H
                                        have H := H1
                                        clear H1
                                        replace H := Option.bind_eq_some_iff.mp H
                                        obtain ⟨t393, A730, H⟩ := H
                                        replace H : (if t393 = true then ((tag_Language.f kj22 t362).bind fun t394 => (if t394 = true then ((tag_Script.f kj22 t362).bind fun t395 => (if t395 = true then (some false) else ((tag_Region.f kj22 t362).bind fun t396 => (if t396 = true then (some false) else ((tag_Script.f kj22 t362).bind fun t397 => (if t397 = true then ((tag_Language.f kj22 t362).bind fun t398 => (if t398 = true then ((tag_Variant.f kj22 t362).bind fun t399 => (some (!t399))) else (some false))) else (some true))))))) else (some false))) else ((tag_Script.f kj22 t362).bind fun t400 => (if t400 = true then ((tag_Language.f kj22 t362).bind fun t401 => (if t401 = true then ((tag_Variant.f kj22 t362).bind fun t402 => (some (!t402))) else (some false))) else (some true)))) = some r := H
                                        have A73 := Aside0.mk A730
                                        clear A730
                                        by_cases c74 : t393 = true
                                        · subst c74
                                          have H1 : ((tag_Language.f kj22 t362).bind fun t394 => (if t394 = true then ((tag_Script.f kj22 t362).bind fun t395 => (if t395 = true then (some false) else ((tag_Region.f kj22 t362).bind fun t396 => (if t396 = true then (some false) else ((tag_Script.f kj22 t362).bind fun t397 => (if t397 = true then ((tag_Language.f kj22 t362).bind fun t398 => (if t398 = true then ((tag_Variant.f kj22 t362).bind fun t399 => (some (!t399))) else (some false))) else (some true))))))) else (some false))) = some r := by rw [if_pos rfl] at H; exact H
                                          clear H
                                          have H := H1
                                          clear H1
                                          replace H := Option.bind_eq_some_iff.mp H
                                          obtain ⟨t394, A750, H⟩ := H
                                          replace H : (if t394 = true then ((tag_Script.f kj22 t362).bind fun t395 => (if t395 = true then (some false) else ((tag_Region.f kj22 t362).bind fun t396 => (if t396 = true then (some false) else ((tag_Script.f kj22 t362).bind fun t397 => (if t397 = true then ((tag_Language.f kj22 t362).bind fun t398 => (if t398 = true then ((tag_Variant.f kj22 t362).bind fun t399 => (some (!t399))) else (some false))) else (some true))))))) else (some false)) = some r := H
                                          have A75 := Aside0.mk A750
                                          clear A750
                                          by_cases c76 : t394 = true
                                          · subst c76
                                            have H1 : ((tag_Script.f kj22 t362).bind fun t395 => (if t395 = true then (some false) else ((tag_Region.f kj22 t362).bind fun t396 => (if t396 = true then (some false) else ((tag_Script.f kj22 t362).bind fun t397 => (if t397 = true then ((tag_Language.f kj22 t362).bind fun t398 => (if t398 = true then ((tag_Variant.f kj22 t362).bind fun t399 => (some (!t399))) else (some false))) else (some true))))))) = some r := by rw [if_pos rfl] at H; exact H
                                            clear H
                                            have H := H1
                                            clear H1
                                            replace H := Option.bind_eq_some_iff.mp H
                                            obtain ⟨t395, A770, H⟩ := H
                                            replace H : (if t395 = true then (some false) else ((tag_Region.f kj22 t362).bind fun t396 => (if t396 = true then (some false) else ((tag_Script.f kj22 t362).bind fun t397 => (if t397 = true then ((tag_Language.f kj22 t362).bind fun t398 => (if t398 = true then ((tag_Variant.f kj22 t362).bind fun t399 => (some (!t399))) else (some false))) else (some true)))))) = some r := H
                                            have A77 := Aside0.mk A770
                                            clear A770
                                            by_cases c78 : t395 = true
                                            · subst c78
                                              have H1 : (some false) = some r := by rw [if_pos rfl] at H; exact H
                                              clear H
                                              have H := H1
                                              clear H1
                                              obtain rfl := Option.some.inj H
                                              go_wp2_with (first | (go_at_call 24; (with_reducible refine (tag_Extlang.calls kj22 t362 true _ A73.out).mono ?_); rintro e w' ⟨rfl, ⟨nd, rfl⟩⟩) | (go_at_call 18; (with_reducible refine (tag_Language.calls kj22 t362 true _ A75.out).mono ?_); rintro e w' ⟨rfl, ⟨nd, rfl⟩⟩) | (go_at_call 25; (with_reducible refine (tag_Script.calls kj22 t362 true _ A77.out).mono ?_); rintro e w' ⟨rfl, ⟨nd, rfl⟩⟩))
                                              go_ret
                                              exact ⟨by first | rfl | (simp [errW_none, errW_some] <;> rfl) | (simp [*, errW_none, errW_some] <;> rfl), by repeat (first | (with_reducible first | exact HB.out | apply below_alloc | apply pw_below_drewN | apply below_drew1) | exact HB.out)⟩
                                            · replace c78 := Bool.eq_false_iff.mpr c78
                                              subst c78
                                              have H1 : ((tag_Region.f kj22 t362).bind fun t396 => (if t396 = true then (some false) else ((tag_Script.f kj22 t362).bind fun t397 => (if t397 = true then ((tag_Language.f kj22 t362).bind fun t398 => (if t398 = true then ((tag_Variant.f kj22 t362).bind fun t399 => (some (!t399))) else (some false))) else (some true))))) = some r := by rw [if_neg (show ¬ (false = true) by decide)] at H; exact H
                                              clear H
                                              have H := H1
                                              clear H1
                                              replace H := Option.bind_eq_some_iff.mp H
                                              obtain ⟨t396, A790, H⟩ := H
                                              replace H : (if t396 = true then (some false) else ((tag_Script.f kj22 t362).bind fun t397 => (if t397 = true then ((tag_Language.f kj22 t362).bind fun t398 => (if t398 = true then ((tag_Variant.f kj22 t362).bind fun t399 => (some (!t399))) else (some false))) else (some true)))) = some r := H
                                              have A79 := Aside0.mk A790
                                              clear A790
                                              by_cases c80 : t396 = true
                                              · subst c80
                                                have H1 : (some false) = some r := by rw [if_pos rfl] at H; exact H
                                                clear H
                                                have H := H1
                                                clear H1
                                                obtain rfl := Option.some.inj H
                                                go_wp2_with (first | (go_at_call 24; (with_reducible refine (tag_Extlang.calls kj22 t362 true _ A73.out).mono ?_); rintro e w' ⟨rfl, ⟨nd, rfl⟩⟩) | (go_at_call 18; (with_reducible refine (tag_Language.calls kj22 t362 true _ A75.out).mono ?_); rintro e w' ⟨rfl, ⟨nd, rfl⟩⟩) | (go_at_call 25; (with_reducible refine (tag_Script.calls kj22 t362 false _ A77.out).mono ?_); rintro e w' ⟨rfl, ⟨nd, rfl⟩⟩) | (go_at_call 19; (with_reducible refine (tag_Region.calls kj22 t362 true _ A79.out).mono ?_); rintro e w' ⟨rfl, ⟨nd, rfl⟩⟩))
                                                go_ret
                                                exact ⟨by first | rfl | (simp [errW_none, errW_some] <;> rfl) | (simp [*, errW_none, errW_some] <;> rfl), by repeat (first | (with_reducible first | exact HB.out | apply below_alloc | apply pw_below_drewN | apply below_drew1) | exact HB.out)⟩
                                              · replace c80 := Bool.eq_false_iff.mpr c80
                                                subst c80
                                                have H1 : ((tag_Script.f kj22 t362).bind fun t397 => (if t397 = true then ((tag_Language.f kj22 t362).bind fun t398 => (if t398 = true then ((tag_Variant.f kj22 t362).bind fun t399 => (some (!t399))) else (some false))) else (some true))) = some r := by rw [if_neg (show ¬ (false = true) by decide)] at H; exact H
                                                clear H
                                                have H := H1
                                                clear H1
                                                replace H := Option.bind_eq_some_iff.mp H
                                                obtain ⟨t397, A810, H⟩ := H
                                                replace H : (if t397 = true then ((tag_Language.f kj22 t362).bind fun t398 => (if t398 = true then ((tag_Variant.f kj22 t362).bind fun t399 => (some (!t399))) else (some false))) else (some true)) = some r := H
                                                have A81 := Aside0.mk A810
                                                clear A810
                                                by_cases c82 : t397 = true
                                                · subst c82
                                                  have H1 : ((tag_Language.f kj22 t362).bind fun t398 => (if t398 = true then ((tag_Variant.f kj22 t362).bind fun t399 => (some (!t399))) else (some false))) = some r := by rw [if_pos rfl] at H; exact H
                                                  clear H
                                                  have H := H1
                                                  clear H1
                                                  replace H := Option.bind_eq_some_iff.mp H
                                                  obtain ⟨t398, A830, H⟩ := H
                                                  replace H : (if t398 = true then ((tag_Variant.f kj22 t362).bind fun t399 => (some (!t399))) else (some false)) = some r := H
                                                  have A83 := Aside0.mk A830
                                                  clear A830
                                                  by_cases c84 : t398 = true
                                                  · subst c84
                                                    have H1 : ((tag_Variant.f kj22 t362).bind fun t399 => (some (!t399))) = some r := by rw [if_pos rfl] at H; exact H
                                                    clear H
                                                    have H := H1
                                                    clear H1
                                                    replace H := Option.bind_eq_some_iff.mp H
                                                    obtain ⟨t399, A850, H⟩ := H
                                                    replace H : (some (!t399)) = some r := H
                                                    have A85 := Aside0.mk A850
                                                    clear A850
                                                    obtain rfl := Option.some.inj H
                                                    exact absurd (Option.some.inj (A77.out.symm.trans A81.out)) (by decide)
                                                  · replace c84 := Bool.eq_false_iff.mpr c84
                                                    subst c84
                                                    have H1 : (some false) = some r := by rw [if_neg (show ¬ (false = true) by decide)] at H; exact H
                                                    clear H
                                                    have H := H1
                                                    clear H1
                                                    obtain rfl := Option.some.inj H
                                                    exact absurd (Option.some.inj (A77.out.symm.trans A81.out)) (by decide)
                                                · replace c82 := Bool.eq_false_iff.mpr c82
                                                  subst c82
                                                  have H1 : (some true) = some r := by rw [if_neg (show ¬ (false = true) by decide)] at H; exact H
                                                  clear H
                                                  have H := H1
                                                  clear H1
                                                  obtain rfl := Option.some.inj H
                                                  go_wp2_with (first | (go_at_call 24; (with_reducible refine (tag_Extlang.calls kj22 t362 true _ A73.out).mono ?_); rintro e w' ⟨rfl, ⟨nd, rfl⟩⟩) | (go_at_call 18; (with_reducible refine (tag_Language.calls kj22 t362 true _ A75.out).mono ?_); rintro e w' ⟨rfl, ⟨nd, rfl⟩⟩) | (go_at_call 25; (with_reducible refine (tag_Script.calls kj22 t362 false _ A77.out).mono ?_); rintro e w' ⟨rfl, ⟨nd, rfl⟩⟩) | (go_at_call 19; (with_reducible refine (tag_Region.calls kj22 t362 false _ A79.out).mono ?_); rintro e w' ⟨rfl, ⟨nd, rfl⟩⟩) | (go_at_call 25; (with_reducible refine (tag_Script.calls kj22 t362 false _ A81.out).mono ?_); rintro e w' ⟨rfl, ⟨nd, rfl⟩⟩))
                                                  go_ret
                                                  exact ⟨by first | rfl | (simp [errW_none, errW_some] <;> rfl) | (simp [*, errW_none, errW_some] <;> rfl), by repeat (first | (with_reducible first | exact HB.out | apply below_alloc | apply pw_below_drewN | apply below_drew1) | exact HB.out)⟩
                                          · replace c76 := Bool.eq_false_iff.mpr c76
                                            subst c76
                                            have H1 : (some false) = some r := by rw [if_neg (show ¬ (false = true) by decide)] at H; exact H
                                            clear H
                                            have H := H1
                                            clear H1
                                            obtain rfl := Option.some.inj H
                                            go_wp2_with (first | (go_at_call 24; (with_reducible refine (tag_Extlang.calls kj22 t362 true _ A73.out).mono ?_); rintro e w' ⟨rfl, ⟨nd, rfl⟩⟩) | (go_at_call 18; (with_reducible refine (tag_Language.calls kj22 t362 false _ A75.out).mono ?_); rintro e w' ⟨rfl, ⟨nd, rfl⟩⟩))
                                            go_ret
                                            exact ⟨by first | rfl | (simp [errW_none, errW_some] <;> rfl) | (simp [*, errW_none, errW_some] <;> rfl), by repeat (first | (with_reducible first | exact HB.out | apply below_alloc | apply pw_below_drewN | apply below_drew1) | exact HB.out)⟩
                                        · replace c74 := Bool.eq_false_iff.mpr c74
                                          subst c74
                                          have H1 : ((tag_Script.f kj22 t362).bind fun t400 => (if t400 = true then ((tag_Language.f kj22 t362).bind fun t401 => (if t401 = true then ((tag_Variant.f kj22 t362).bind fun t402 => (some (!t402))) else (some false))) else (some true))) = some r := by rw [if_neg (show ¬ (false = true) by decide)] at H; exact H
                                          clear H
                                          have H := H1
                                          clear H1
                                          replace H := Option.bind_eq_some_iff.mp H
                                          obtain ⟨t400, A860, H⟩ := H
                                          replace H : (if t400 = true then ((tag_Language.f kj22 t362).bind fun t401 => (if t401 = true then ((tag_Variant.f kj22 t362).bind fun t402 => (some (!t402))) else (some false))) else (some true)) = some r := H
                                          have A86 := Aside0.mk A860
                                          clear A860
                                          by_cases c87 : t400 = true
                                          · subst c87
                                            have H1 : ((tag_Language.f kj22 t362).bind fun t401 => (if t401 = true then ((tag_Variant.f kj22 t362).bind fun t402 => (some (!t402))) else (some false))) = some r := by rw [if_pos rfl] at H; exact H
                                            clear H
                                            have H := H1
                                            clear H1
                                            replace H := Option.bind_eq_some_iff.mp H
                                            obtain ⟨t401, A880, H⟩ := H
                                            replace H : (if t401 = true then ((tag_Variant.f kj22 t362).bind fun t402 => (some (!t402))) else (some false)) = some r := H
                                            have A88 := Aside0.mk A880
                                            clear A880
                                            by_cases c89 : t401 = true
                                            · subst c89
                                              have H1 : ((tag_Variant.f kj22 t362).bind fun t402 => (some (!t402))) = some r := by rw [if_pos rfl] at H; exact H
                                              clear H
                                              have H := H1
                                              clear H1
                                              replace H := Option.bind_eq_some_iff.mp H
                                              obtain ⟨t402, A900, H⟩ := H
                                              replace H : (some (!t402)) = some r := H
                                              have A90 := Aside0.mk A900
                                              clear A900
                                              obtain rfl := Option.some.inj H
                                              go_wp2_with (first | (go_at_call 24; (with_reducible refine (tag_Extlang.calls kj22 t362 false _ A73.out).mono ?_); rintro e w' ⟨rfl, ⟨nd, rfl⟩⟩) | (go_at_call 25; (with_reducible refine (tag_Script.calls kj22 t362 true _ A86.out).mono ?_); rintro e w' ⟨rfl, ⟨nd, rfl⟩⟩) | (go_at_call 18; (with_reducible refine (tag_Language.calls kj22 t362 true _ A88.out).mono ?_); rintro e w' ⟨rfl, ⟨nd, rfl⟩⟩) | (go_at_call 20; (with_reducible refine (tag_Variant.calls kj22 t362 t402 _ A90.out).mono ?_); rintro e w' ⟨rfl, ⟨nd, rfl⟩⟩))
                                              go_ret
                                              exact ⟨by first | rfl | (simp [errW_none, errW_some] <;> rfl) | (simp [*, errW_none, errW_some] <;> rfl), by repeat (first | (with_reducible first | exact HB.out | apply below_alloc | apply pw_below_drewN | apply below_drew1) | exact HB.out)⟩
                                            · replace c89 := Bool.eq_false_iff.mpr c89
                                              subst c89
                                              have H1 : (some false) = some r := by rw [if_neg (show ¬ (false = true) by decide)] at H; exact H
                                              clear H
                                              have H := H1
                                              clear H1
                                              obtain rfl := Option.some.inj H
                                              go_wp2_with (first | (go_at_call 24; (with_reducible refine (tag_Extlang.calls kj22 t362 false _ A73.out).mono ?_); rintro e w' ⟨rfl, ⟨nd, rfl⟩⟩) | (go_at_call 25; (with_reducible refine (tag_Script.calls kj22 t362 true _ A86.out).mono ?_); rintro e w' ⟨rfl, ⟨nd, rfl⟩⟩) | (go_at_call 18; (with_reducible refine (tag_Language.calls kj22 t362 false _ A88.out).mono ?_); rintro e w' ⟨rfl, ⟨nd, rfl⟩⟩))
                                              go_ret
                                              exact ⟨by first | rfl | (simp [errW_none, errW_some] <;> rfl) | (simp [*, errW_none, errW_some] <;> rfl), by repeat (first | (with_reducible first | exact HB.out | apply below_alloc | apply pw_below_drewN | apply below_drew1) | exact HB.out)⟩
                                          · replace c87 := Bool.eq_false_iff.mpr c87
                                            subst c87
                                            have H1 : (some true) = some r := by rw [if_neg (show ¬ (false = true) by decide)] at H; exact H
                                            clear H
                                            have H := H1
                                            clear H1
                                            obtain rfl := Option.some.inj H
                                            go_wp2_with (first | (go_at_call 24; (with_reducible refine (tag_Extlang.calls kj22 t362 false _ A73.out).mono ?_); rintro e w' ⟨rfl, ⟨nd, rfl⟩⟩) | (go_at_call 25; (with_reducible refine (tag_Script.calls kj22 t362 false _ A86.out).mono ?_); rintro e w' ⟨rfl, ⟨nd, rfl⟩⟩))
                                            go_ret
                                            exact ⟨by first | rfl | (simp [errW_none, errW_some] <;> rfl) | (simp [*, errW_none, errW_some] <;> rfl), by repeat (first | (with_reducible first | exact HB.out | apply below_alloc | apply pw_below_drewN | apply below_drew1) | exact HB.out)⟩
                                      · replace c72 := Bool.eq_false_iff.mpr c72
                                        subst c72
                                        have H1 : (some false) = some r := by rw [if_neg (show ¬ (false = true) by decide)] at H; exact H
                                        clear H
                                        have H := H1
                                        clear H1
                                        obtain rfl := Option.some.inj H
                                        go_wp2
                                        go_ret
                                        exact ⟨by first | rfl | (simp [errW_none, errW_some] <;> rfl) | (simp [*, errW_none, errW_some] <;> rfl), by repeat (first | (with_reducible first | exact HB.out | apply below_alloc | apply pw_below_drewN | apply below_drew1) | exact HB.out)⟩
                                · rw [if_neg c32] at H
                                  have c32b0 : decide (x4_18 ≤ 1) = false := decide_eq_false c32
                                  clear c32
                                  obtain rfl := Option.some.inj H
                                  go_wp2
                                  go_ret
                                  exact ⟨by first | rfl | (simp [errW_none, errW_some] <;> rfl) | (simp [*, errW_none, errW_some] <;> rfl), by repeat (first | (with_reducible first | exact HB.out | apply below_alloc | apply pw_below_drewN | apply below_drew1) | exact HB.out)⟩
                              · replace c31 := Bool.eq_false_iff.mpr c31
                                subst c31
                                have H1 : (some false) = some r := by rw [if_neg (show ¬ (false = true) by decide)] at H; exact H
                                clear H
                                have H := H1
                                clear H1
                                obtain rfl := Option.some.inj H
                                go_wp2
                                go_ret
                                exact ⟨by first | rfl | (simp [errW_none, errW_some] <;> rfl) | (simp [*, errW_none, errW_some] <;> rfl), by repeat (first | (with_reducible first | exact HB.out | apply below_alloc | apply pw_below_drewN | apply below_drew1) | exact HB.out)⟩

/-- THE ONE PURE STATEMENT of isoglosslaw06_TagApart: yours. -/
def isoglosslaw06_TagApart.Pure : Prop := ∀ (a0 : ByteArray), a0.size ≤ 140737488351232 → ∃ k, isoglosslaw06_TagApart.f k a0 = some true
theorem isoglosslaw06_TagApart.walk (P : isoglosslaw06_TagApart.Pure) (a0 : ByteArray) (w : World) (w0 : a0.size ≤ 140737488351232) :
    Calls Try.prog 6 #[.string a0] w fun e w' => e = .returned (.bool true) ∧ Below w.heap.size w w' := by
  obtain ⟨k, h⟩ := P a0 w0
  refine (isoglosslaw06_TagApart.calls k a0 true w h).mono ?_
  rintro e w' ⟨rfl, hd⟩
  exact ⟨rfl, hd⟩

-- NOT PRINTED: function 66 (split_Each)

-- NOT PRINTED: function 57 (split_Split)

-- NOT PRINTED: function 27 (tag_Subtags)

-- NOT PRINTED: function 7 (isoglosslaw06_TagSubtags)

end Go.Proofs.Ytljadeeoaoiilaa.P
