/- The row of the law TagClones: its arguments opened, the printed walk, handed back. Condition: none but the row's own. -/
import Derived.Test.YtljadeeoaoiilaaRowTag
import Derived.Test.YtljadeeoaoiilaaRows
import Derived.Test.YtljadeeoaoiilaaPx10
import Derived.Test.YtljadeeoaoiilaaPureTagClones
import Derived.WalkKit
import Derived.ProofKit
import Derived.OpenShut
import Derived.ShutString
import Derived.ChangeOld
import Derived.Below
import Derived.SizedLaws
import Derived.SliceStrings
import Derived.Test.YtljadeeoaoiilaaWSized
namespace Go.Proofs.Ytljadeeoaoiilaa.tagClones
open Go.ChangeShapes Go.WideShapes Go.ChangeAt Go.RowKit Go.Proofs.YtljadeeoaoiilaaW.PrintWords
open Go.ChangeMaps (open_string shut_string)
set_option linter.unusedVariables false
theorem own : ownKnob Try.prog.godebug = none := by kernel_rfl
theorem laidOut : laidOutB Try.prog = true := by kernel_rfl
set_option maxRecDepth 100000 in
theorem lifted (os : Os) (started : os.Started) (H : Type) (enc : TypeId × Value → H) :
    ReturnsInHanded {} Try.checked os 3 .any (Rows.tagClonesSpec.pre6 enc Try.prog Try.f3 Rows.tagClonesRow.domain false) (Rows.tagClonesSpec.post enc Try.prog Try.f3 false true false false) := by
  refine returnsInHanded_of_change_sized (C := Try.checked) own started (by kernel_rfl) Try.func3
    (ChangeSpec.witness6 (enc := enc) (C := Try.checked) false ⟨#[], #[.agg #[.int .i64 0, .int .i64 0, .int .i64 0, .int .i64 0, .slice none 0 0, .slice none 0 0, .slice none 0 0, .int .i64 0], .agg #[.string ByteArray.empty, .slice none 0 0, .string ByteArray.empty, .string ByteArray.empty, .slice none 0 0, .slice none 0 0, .slice none 0 0, .string ByteArray.empty]], []⟩ 8 (by kernel_rfl) (by kernel_rfl) (by kernel_rfl) (by kernel_rfl)) ?_
  intro W base args ds gs before hval0 hW hcnd hsz0 _
  have hsz : (DataW.weightsEach Try.prog (Try.f3.params.toList ++ Rows.tagClonesSpec.plain.varTypes Try.prog) (ds ++ gs)).all (· ≤ reachBytes) = true := hsz0
  have hval : ∀ (j : Nat) t v, Try.f3.params[j]? = some t → args[j]? = some v → Value.okWide Try.prog W .any base t v := hval0
  have hW' := hW
  obtain ⟨p, q, hA0, hV, rfl, hfz, hnd⟩ := hW
  have hA : DataW.TrodAll enc Try.prog W 0 (fun _ => true) true Try.f3.params.toList args.toList ds p := hA0
  rw [Try.params3] at hA hval hsz
  obtain ⟨v0, vs0, d0, ds0, p0, q0, hargs, rfl, rfl, h0, r0⟩ := trodAll_cons hA
  obtain ⟨v1, vs1, d1, ds1, p1, q1, rfl, rfl, rfl, h1, r1⟩ := trodAll_cons r0
  obtain ⟨rfl, rfl, rfl⟩ := trodAll_nil r1
  obtain rfl : args = #[v0, v1] := by cases args; simp_all
  obtain ⟨rfl, rfl⟩ := trodVars_none hV
  have k0 := h0
  have lt0 : ∀ x ∈ p0, x.block < W.heap.size := by obtain ⟨m, hm⟩ := k0; exact DataW.trod_lt m _ _ _ hm
  obtain ⟨s0_0, s1_0, s2_0, s3_0, A4_0, c4_0, l4_0, A5_0, c5_0, l5_0, A6_0, c6_0, l6_0, s7_0, rfl, u4_0, u5_0, u6_0⟩ := P.openSeed (hval 0 24 v0 rfl rfl) h0
  have k1 := h1
  have lt1 : ∀ x ∈ p1, x.block < W.heap.size := by obtain ⟨m, hm⟩ := k1; exact DataW.trod_lt m _ _ _ hm
  obtain ⟨x0_1, A1_1, c1_1, l1_1, x2_1, x3_1, A4_1, c4_1, l4_1, A5_1, c5_1, l5_1, A6_1, c6_1, l6_1, x7_1, rfl, u1_1, u4_1, u5_1, u6_1⟩ := P.openTag (hval 1 28 v1 rfl rfl) h1
  clear hA0 hval0 hsz0 hsz
  obtain ⟨k, h⟩ := Pure.TagClones s0_0 s1_0 s2_0 s3_0 l4_0 l5_0 l6_0 s7_0 x0_1 l1_1 x2_1 x3_1 l4_1 l5_1 l6_1 x7_1 
  refine (P.isoglosslaw06_TagClones.calls k s0_0 s1_0 s2_0 s3_0 _ _ l4_0 _ _ l5_0 _ _ l6_0 s7_0 x0_1 _ _ l1_1 x2_1 x3_1 _ _ l4_1 _ _ l5_1 _ _ l6_1 x7_1 true W u4_0.1 u4_0.2 u5_0.1 u5_0.2 u6_0.1 u6_0.2 u1_1.1 u1_1.2 u4_1.1 u4_1.2 u5_1.1 u5_1.2 u6_1.1 u6_1.2 h).mono fun e W' ⟨he, bel⟩ => ?_
  subst he
  exact ⟨_, rfl, _, _, _, [], _, [], hW', trodAll_mk1 (shut_bool Try.underlying4 _), (trodAll_cons_mk (Below.trod laidOut (by kernel_rfl) (of_decide_eq_true (by kernel_rfl)) k0 bel lt0) (trodAll_cons_mk (Below.trod laidOut (by kernel_rfl) (of_decide_eq_true (by kernel_rfl)) k1 bel lt1) trodAll_mk0)), rfl, bel.frame _, fun h => by cases h⟩
theorem over : Rows.tagClonesRow.holds Try.pinned (OpenSpec.ofChange Rows.tagClonesSpec) :=
  OpenClaim.holds_of_wide 3 Try.f3 rfl rfl rfl rfl rfl rfl rfl ⟨rfl, rfl, rfl, rfl, rfl⟩ rfl rfl rfl rfl rfl (by kernel_rfl) Try.func3 (by kernel_rfl)
    (of_decide_eq_true (by kernel_rfl)) (by unfold Func.isWrapper; first | (rw [if_pos (by decide +kernel)]; kernel_rfl) | (rw [if_neg (by decide +kernel)]; exact ⟨rfl, rfl⟩))
    (fun os started H enc _ => lifted os started H enc)
theorem proved : Rows.TagClonesSaid := over
#print axioms proved
end Go.Proofs.Ytljadeeoaoiilaa.tagClones
namespace Go.Proofs.Ytljadeeoaoiilaa
theorem tagClones_holds : Rows.TagClonesSaid := tagClones.proved
end Go.Proofs.Ytljadeeoaoiilaa
