/- The tied card of the law TagParts: its arguments opened, the printed walk, handed back. Condition: none but the card's own. -/
import Derived.Test.YtljadeeoaoiilaaGreatDoorRowTag
import Derived.Test.YtljadeeoaoiilaaGreatDoorRows
import Derived.Test.YtljadeeoaoiilaaGreatDoorWalkTagParts
import Derived.Test.YtljadeeoaoiilaaGreatDoorPureTagParts
import Derived.Test.YtljadeeoaoiilaaGreatDoorRowNames
import Derived.Test.YtljadeeoaoiilaaGreatDoorTie
import Derived.Test.YtljadeeoaoiilaaGreatDoorCards
import Derived.SevenTiedAt
import Derived.LaidLaws
import Derived.LaidHandle
import Derived.Lib.LaidTab
import Derived.Stop.LaidErr
import Derived.Lib.ItoaNum
import Derived.Handed
import Derived.WalkKit
import Derived.ProofKit
import Derived.OpenShut
import Derived.ShutString
import Derived.ChangeOld
import Derived.Below
import Derived.SizedLaws
import Derived.SliceStrings
import Derived.ChangeSlices
namespace Go.Proofs.YtljadeeoaoiilaaGreatDoor.tagParts
open Go.ChangeShapes Go.WideShapes Go.ChangeAt Go.RowKit Go.Proofs.YtljadeeoaoiilaaGreatDoorW.PrintWords
open Go.ChangeMaps (open_string shut_string)
set_option linter.unusedVariables false
theorem own : ownKnob Tryz.prog.godebug = none := by kernel_rfl
theorem laidOut : laidOutB Tryz.prog = true := by kernel_rfl
theorem names_of {W : World} (h : laidMetH Tryz.prog Rows.tagPartsRow.laid W) : P.NamesIn W := by
  have h' : laidMet Tryz.prog [("isogloss/grand.names", Rows.laid_isogloss_grand_names)] W := h
  exact P.names_of_laid h'
noncomputable def laidWorld (os : Os) : World :=
  let w0 := World.holding Tryz.prog os ⟨#[], #[], []⟩
  { w0 with heap := w0.heap.modify 0 fun o => match o with | .cells _ t frozen => .cells #[.string ⟨#[97, 114, 116, 45, 108, 111, 106, 98, 97, 110]⟩, .string ⟨#[99, 101, 108, 45, 103, 97, 117, 108, 105, 115, 104]⟩, .string ⟨#[101, 110, 45, 103, 98, 45, 111, 101, 100]⟩, .string ⟨#[105, 45, 97, 109, 105]⟩, .string ⟨#[105, 45, 98, 110, 110]⟩, .string ⟨#[105, 45, 100, 101, 102, 97, 117, 108, 116]⟩, .string ⟨#[105, 45, 101, 110, 111, 99, 104, 105, 97, 110]⟩, .string ⟨#[105, 45, 104, 97, 107]⟩, .string ⟨#[105, 45, 107, 108, 105, 110, 103, 111, 110]⟩, .string ⟨#[105, 45, 108, 117, 120]⟩, .string ⟨#[105, 45, 109, 105, 110, 103, 111]⟩, .string ⟨#[105, 45, 110, 97, 118, 97, 106, 111]⟩, .string ⟨#[105, 45, 112, 119, 110]⟩, .string ⟨#[105, 45, 116, 97, 111]⟩, .string ⟨#[105, 45, 116, 97, 121]⟩, .string ⟨#[105, 45, 116, 115, 117]⟩, .string ⟨#[110, 111, 45, 98, 111, 107]⟩, .string ⟨#[110, 111, 45, 110, 121, 110]⟩, .string ⟨#[115, 103, 110, 45, 98, 101, 45, 102, 114]⟩, .string ⟨#[115, 103, 110, 45, 98, 101, 45, 110, 108]⟩, .string ⟨#[115, 103, 110, 45, 99, 104, 45, 100, 101]⟩, .string ⟨#[122, 104, 45, 103, 117, 111, 121, 117]⟩, .string ⟨#[122, 104, 45, 104, 97, 107, 107, 97]⟩, .string ⟨#[122, 104, 45, 109, 105, 110]⟩, .string ⟨#[122, 104, 45, 109, 105, 110, 45, 110, 97, 110]⟩, .string ⟨#[122, 104, 45, 120, 105, 97, 110, 103]⟩] t frozen | o => o }
theorem laidWorld_met (os : Os) (args : Array Value) : laidMetH Tryz.prog Rows.tagPartsRow.laid ((laidWorld os).forCall (fun _ _ => 0) ⟨#[], args, []⟩).memory :=
  laidMetH_of_parts (laidMet_of_run' 8 (by kernel_rfl) (by kernel_rfl)) (by kernel_rfl)
set_option maxRecDepth 100000 in
theorem lifted (os : Os) (started : os.Started) (H : Type) (enc : TypeId × Value → H) :
    ReturnsInHanded {} Tryz.checked os 4 .any (fun w args => (Rows.tagPartsSpec.pre enc Tryz.prog Tryz.f4 [] false w args ∧ laidMetH Tryz.prog Rows.tagPartsRow.laid w) ∧ sizedMet enc Tryz.prog Tryz.f4 (OpenSpec.ofChange Rows.tagPartsSpec) false w args) (Rows.tagPartsSpec.post enc Tryz.prog Tryz.f4 false true false false) := by
  refine returnsInHanded_of_change_and (C := Tryz.checked) (X := fun w _ => laidMetH Tryz.prog Rows.tagPartsRow.laid w) (fun _ _ _ hh h => h.of_heap hh) own started (by kernel_rfl) Tryz.func4
    (ChangeSpec.witness_at (enc := enc) (C := Tryz.checked) (os := os) (X := fun w _ => laidMetH Tryz.prog Rows.tagPartsRow.laid w) false (laidWorld os) #[.agg #[.int .i64 0, .int .i64 0, .int .i64 0, .int .i64 0, .slice none 0 0, .slice none 0 0, .slice none 0 0, .int .i64 0], .int .i64 0] 8 rfl (by kernel_rfl) (by kernel_rfl) (by kernel_rfl) (by kernel_rfl) (by kernel_rfl) (laidWorld_met os _)) ?_
  intro W base args ds gs before hval0 hW hcnd hsz0 hL _
  have hsz : (DataW.weightsEach Tryz.prog (Tryz.f4.params.toList ++ Rows.tagPartsSpec.plain.varTypes Tryz.prog) (ds ++ gs)).all (· ≤ reachBytes) = true := hsz0
  have hval : ∀ (j : Nat) t v, Tryz.f4.params[j]? = some t → args[j]? = some v → Value.okWide Tryz.prog W .any base t v := hval0
  have hW' := hW
  obtain ⟨p, q, hA0, hV, rfl, hfz, hnd⟩ := hW
  have hA : DataW.TrodAll enc Tryz.prog W 0 (fun _ => true) true Tryz.f4.params.toList args.toList ds p := hA0
  rw [Tryz.params4] at hA hval hsz
  obtain ⟨v0, vs0, d0, ds0, p0, q0, hargs, rfl, rfl, h0, r0⟩ := trodAll_cons hA
  obtain ⟨v1, vs1, d1, ds1, p1, q1, rfl, rfl, rfl, h1, r1⟩ := trodAll_cons r0
  obtain ⟨rfl, rfl, rfl⟩ := trodAll_nil r1
  obtain rfl : args = #[v0, v1] := by cases args; simp_all
  obtain ⟨rfl, rfl⟩ := trodVars_none hV
  have k0 := h0
  have lt0 : ∀ x ∈ p0, x.block < W.heap.size := by obtain ⟨m, hm⟩ := k0; exact DataW.trod_lt m _ _ _ hm
  obtain ⟨s0_0, s1_0, s2_0, s3_0, A4_0, c4_0, l4_0, A5_0, c5_0, l5_0, A6_0, c6_0, l6_0, s7_0, rfl, u4_0, u5_0, u6_0⟩ := P.openSeed (hval 0 28 v0 rfl rfl) h0
  obtain ⟨a1, rfl, rfl, rfl, w1⟩ := open_int Tryz.underlying3 (hval 1 3 v1 rfl rfl) h1
  clear hA0 hval0 hsz0 hsz
  obtain ⟨k, h⟩ := Pure.TagParts s0_0 s1_0 s2_0 s3_0 l4_0 l5_0 l6_0 s7_0 a1 w1
  have hg := names_of hL
  refine (P.isoglosslaw06_TagParts.calls k s0_0 s1_0 s2_0 s3_0 _ _ l4_0 _ _ l5_0 _ _ l6_0 s7_0 a1 true W u4_0.1 u4_0.2 u5_0.1 u5_0.2 u6_0.1 u6_0.2 hg h).mono fun e W' ⟨he, bel⟩ => ?_
  subst he
  exact ⟨_, rfl, _, _, _, [], _, [], hW', trodAll_mk1 (shut_bool Tryz.underlying4 _), (trodAll_cons_mk (Below.trod laidOut (by kernel_rfl) (of_decide_eq_true (by kernel_rfl)) k0 bel lt0) (trodAll_cons_mk (shut_int Tryz.underlying3 w1) trodAll_mk0)), rfl, bel.frame _, fun h => by cases h⟩
theorem over : Rows.tagPartsRow.holds Tryz.pinned (OpenSpec.ofChange Rows.tagPartsSpec) :=
  OpenClaim.holds_of_wide 4 Tryz.f4 rfl rfl rfl rfl rfl rfl rfl ⟨rfl, rfl, rfl, rfl, rfl⟩ rfl rfl rfl rfl rfl (by kernel_rfl) Tryz.func4 (by kernel_rfl)
    (of_decide_eq_true (by kernel_rfl)) (by unfold Func.isWrapper; first | (rw [if_pos (by decide +kernel)]; kernel_rfl) | (rw [if_neg (by decide +kernel)]; exact ⟨rfl, rfl⟩))
    (fun os started H enc _ => lifted os started H enc)
theorem proved : Rows.TagPartsSaid := over
theorem card_holds : Claim7.holds Tryz.pinned (.plain (OpenSpec.ofChange Rows.tagPartsSpec)) Rows.tagPartsCard :=
  Claim7.holds_tied_plain_at .later [] [.data] true (true, "f7c538afd50cd7ca5e7f4933e044878bca781ac74ed81f55236a633b32b8123d") false
    proved (fun _ h => by cases h) (by kernel_rfl) (fun _ h => by cases h) tagParts_row_tie rfl ⟨rfl, rfl⟩ (by kernel_rfl) rfl
    (fun f fn hf hfn => by
      obtain rfl : f = 4 := Option.some.inj ((show Tryz.prog.funcNamed "isogloss/isoglosslaw06.TagParts" = some 4 by kernel_rfl).symm.trans hf) |>.symm
      obtain rfl : fn = Tryz.f4 := (Option.some.inj (Tryz.func4.symm.trans hfn)).symm
      exact ⟨by kernel_rfl, fun j t ht => by
        rw [Tryz.params4] at ht
        have h : t = 28 ∨ t = 3 := by
          rcases j with _ | j
          · have h_ := (Option.some.inj ht).symm; exact .inl h_
          rcases j with _ | j
          · have h_ := (Option.some.inj ht).symm; exact .inr (h_)
          exact absurd ht (by simp)
        rcases h with h | h
        · subst h; exact (show Tryz.prog.wantsStandIn 28 = false by kernel_rfl)
        · subst h; exact (show Tryz.prog.wantsStandIn 3 = false by kernel_rfl)⟩)
    (by kernel_rfl)
#print axioms card_holds
end Go.Proofs.YtljadeeoaoiilaaGreatDoor.tagParts
namespace Go.Proofs.YtljadeeoaoiilaaGreatDoor
theorem tagParts_holds : Rows.TagPartsCardSaid := tagParts.card_holds
end Go.Proofs.YtljadeeoaoiilaaGreatDoor
