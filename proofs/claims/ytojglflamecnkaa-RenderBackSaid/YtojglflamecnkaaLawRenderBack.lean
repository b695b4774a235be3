/- The row of the law RenderBack: its arguments opened, the printed walk, handed back. Condition: none but the row's own. -/
import Derived.Test.YtojglflamecnkaaRowTag
import Derived.Test.YtojglflamecnkaaRows
import Derived.Test.YtojglflamecnkaaWalkRenderBack
import Derived.Test.YtojglflamecnkaaPureRenderBack
import Derived.WalkKit
import Derived.ProofKit
import Derived.OpenShut
import Derived.ShutString
import Derived.ChangeOld
import Derived.Below
import Derived.SizedLaws
import Derived.SliceStrings
import Derived.ChangeSlices
namespace Go.Proofs.Ytojglflamecnkaa.renderBack
open Go.ChangeShapes Go.WideShapes Go.ChangeAt Go.RowKit Go.Proofs.YtojglflamecnkaaW.PrintWords
open Go.ChangeMaps (open_string shut_string)
set_option linter.unusedVariables false
theorem own : ownKnob Try.prog.godebug = none := by kernel_rfl
theorem laidOut : laidOutB Try.prog = true := by kernel_rfl
set_option maxRecDepth 100000 in
theorem lifted (os : Os) (started : os.Started) (H : Type) (enc : TypeId × Value → H) :
    ReturnsInHanded {} Try.checked os 6 .any (Rows.renderBackSpec.pre6 enc Try.prog Try.f6 Rows.renderBackRow.domain false) (Rows.renderBackSpec.post enc Try.prog Try.f6 false true false false) := by
  refine returnsInHanded_of_change_sized (C := Try.checked) own started (by kernel_rfl) Try.func6
    (ChangeSpec.witness6 (enc := enc) (C := Try.checked) false ⟨#[], #[.agg #[.int .i64 0, .int .i64 0, .int .i64 0, .int .i64 0, .slice none 0 0, .slice none 0 0, .slice none 0 0, .int .i64 0]], []⟩ 8 (by kernel_rfl) (by kernel_rfl) (by kernel_rfl) (by kernel_rfl)) ?_
  intro W base args ds gs before hval0 hW hcnd hsz0 _
  have hsz : (DataW.weightsEach Try.prog (Try.f6.params.toList ++ Rows.renderBackSpec.plain.varTypes Try.prog) (ds ++ gs)).all (· ≤ reachBytes) = true := hsz0
  have hval : ∀ (j : Nat) t v, Try.f6.params[j]? = some t → args[j]? = some v → Value.okWide Try.prog W .any base t v := hval0
  have hW' := hW
  obtain ⟨p, q, hA0, hV, rfl, hfz, hnd⟩ := hW
  have hA : DataW.TrodAll enc Try.prog W 0 (fun _ => true) true Try.f6.params.toList args.toList ds p := hA0
  rw [Try.params6] at hA hval hsz
  obtain ⟨v0, vs0, d0, ds0, p0, q0, hargs, rfl, rfl, h0, r0⟩ := trodAll_cons hA
  obtain ⟨rfl, rfl, rfl⟩ := trodAll_nil r0
  obtain rfl : args = #[v0] := by cases args; simp_all
  obtain ⟨rfl, rfl⟩ := trodVars_none hV
  have k0 := h0
  have lt0 : ∀ x ∈ p0, x.block < W.heap.size := by obtain ⟨m, hm⟩ := k0; exact DataW.trod_lt m _ _ _ hm
  obtain ⟨s0_0, s1_0, s2_0, s3_0, A4_0, c4_0, l4_0, A5_0, c5_0, l5_0, A6_0, c6_0, l6_0, s7_0, rfl, u4_0, u5_0, u6_0⟩ := P.openSeed (hval 0 31 v0 rfl rfl) h0
  clear hA0 hval0 hsz0 hsz
  obtain ⟨k, h⟩ := Pure.RenderBack s0_0 s1_0 s2_0 s3_0 l4_0 l5_0 l6_0 s7_0 
  refine (P.isoglosslaw08_RenderBack.calls k s0_0 s1_0 s2_0 s3_0 _ _ l4_0 _ _ l5_0 _ _ l6_0 s7_0 true W u4_0.1 u4_0.2 u5_0.1 u5_0.2 u6_0.1 u6_0.2 h).mono fun e W' ⟨he, bel⟩ => ?_
  subst he
  exact ⟨_, rfl, _, _, _, [], _, [], hW', trodAll_mk1 (shut_bool Try.underlying4 _), (trodAll_cons_mk (Below.trod laidOut (by kernel_rfl) (of_decide_eq_true (by kernel_rfl)) k0 bel lt0) trodAll_mk0), rfl, bel.frame _, fun h => by cases h⟩
theorem over : Rows.renderBackRow.holds Try.pinned (OpenSpec.ofChange Rows.renderBackSpec) :=
  OpenClaim.holds_of_wide 6 Try.f6 rfl rfl rfl rfl rfl rfl rfl ⟨rfl, rfl, rfl, rfl, rfl⟩ rfl rfl rfl rfl rfl (by kernel_rfl) Try.func6 (by kernel_rfl)
    (of_decide_eq_true (by kernel_rfl)) (by unfold Func.isWrapper; first | (rw [if_pos (by decide +kernel)]; kernel_rfl) | (rw [if_neg (by decide +kernel)]; exact ⟨rfl, rfl⟩))
    (fun os started H enc _ => lifted os started H enc)
theorem proved : Rows.RenderBackSaid := over
#print axioms proved
end Go.Proofs.Ytojglflamecnkaa.renderBack
namespace Go.Proofs.Ytojglflamecnkaa
theorem renderBack_holds : Rows.RenderBackSaid := renderBack.proved
end Go.Proofs.Ytojglflamecnkaa
