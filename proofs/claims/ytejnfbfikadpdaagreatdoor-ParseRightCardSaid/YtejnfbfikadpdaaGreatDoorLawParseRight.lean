/- The tied card of the law ParseRight: its arguments opened, the printed walk, handed back. Condition: none but the card's own. -/
import Derived.Test.YtejnfbfikadpdaaGreatDoorRowTag
import Derived.Test.YtejnfbfikadpdaaGreatDoorRows
import Derived.Test.YtejnfbfikadpdaaGreatDoorWalkParseRight
import Derived.Test.YtejnfbfikadpdaaGreatDoorPureParseRight
import Derived.Test.YtejnfbfikadpdaaGreatDoorRowNames
import Derived.Test.YtejnfbfikadpdaaGreatDoorTie
import Derived.Test.YtejnfbfikadpdaaGreatDoorCards
import Derived.SevenTiedAt
import Derived.LaidLaws
import Derived.LaidHandle
import Derived.Lib.LaidTab
import Derived.Stop.LaidErr
import Derived.Lib.ItoaNum
import Derived.Handed
import Derived.WalkKit
import Derived.ProofKit
import Derived.OpenShut
import Derived.ShutString
import Derived.ChangeOld
import Derived.Below
import Derived.SizedLaws
import Derived.SliceStrings
import Derived.ChangeSlices
namespace Go.Proofs.YtejnfbfikadpdaaGreatDoor.parseRight
open Go.ChangeShapes Go.WideShapes Go.ChangeAt Go.RowKit Go.Proofs.YtejnfbfikadpdaaGreatDoorW.PrintWords
open Go.ChangeMaps (open_string shut_string)
set_option linter.unusedVariables false
theorem own : ownKnob Tryz.prog.godebug = none := by kernel_rfl
theorem laidOut : laidOutB Tryz.prog = true := by kernel_rfl
theorem et : Tryz.prog.globalNamed "errors.errorType" = some 1 := by kernel_rfl
theorem rt : (Tryz.prog.cutTypes.find? (·.1 == "internal/reflectlite.rtype")).map (·.2) = some 156 := by kernel_rfl
theorem oneRow : ((List.range 218).filter fun t => Tryz.prog.rowNamed t [101, 114, 114, 111, 114]) = [33] := by kernel_rfl
theorem size : Tryz.prog.types.size = 218 := by kernel_rfl
theorem handle_of_laid {W : World} (h : laidMetH Tryz.prog Rows.parseRightRow.laid W) : W.cell? ⟨1, 0, none⟩ = some P.errGV := by
  have h' : laidMet Tryz.prog [("isogloss/grand.names", Rows.laid_isogloss_grand_names)] W ∧ handlesMet Tryz.prog [("errors.errorType", Rows.laid_errors_errorType)] W := h
  obtain ⟨name, u, ty, e1, e2, e3, e4, e5⟩ := h'.2 _ (List.mem_singleton.2 rfl)
  have en : name = [101, 114, 114, 111, 114] := (Option.some.inj e1).symm
  subst en
  obtain rfl := Option.some.inj (rt.symm.trans e2)
  have hm : ty ∈ (List.range 218).filter fun t => Tryz.prog.rowNamed t [101, 114, 114, 111, 114] := List.mem_filter.2 ⟨List.mem_range.2 (by rw [← size]; exact e3), e4⟩
  rw [oneRow] at hm
  obtain rfl := List.mem_singleton.1 hm
  have hh : typeHandle Tryz.prog 33 = .pointer (some ⟨3, 33, none⟩) := by kernel_rfl
  rw [hh] at e5
  simpa using World.var?_cell et e5 0
theorem given_of_laid {W : World} (h : laidMetH Tryz.prog Rows.parseRightRow.laid W) : P.Given W := by
  have h' : laidMet Tryz.prog [("isogloss/grand.names", Rows.laid_isogloss_grand_names)] W ∧ handlesMet Tryz.prog [("errors.errorType", Rows.laid_errors_errorType)] W := h
  exact ⟨P.names_of_laid h'.1, handle_of_laid h⟩
noncomputable def laidWorld (os : Os) : World :=
  let w0 := World.holding Tryz.prog os ⟨#[], #[], []⟩
  { w0 with heap := ((w0.heap.modify 1 fun o => match o with | .cells _ t frozen => .cells #[P.errGV] t frozen | o => o).modify 0 fun o => match o with | .cells _ t frozen => .cells #[.string ⟨#[97, 114, 116, 45, 108, 111, 106, 98, 97, 110]⟩, .string ⟨#[99, 101, 108, 45, 103, 97, 117, 108, 105, 115, 104]⟩, .string ⟨#[101, 110, 45, 103, 98, 45, 111, 101, 100]⟩, .string ⟨#[105, 45, 97, 109, 105]⟩, .string ⟨#[105, 45, 98, 110, 110]⟩, .string ⟨#[105, 45, 100, 101, 102, 97, 117, 108, 116]⟩, .string ⟨#[105, 45, 101, 110, 111, 99, 104, 105, 97, 110]⟩, .string ⟨#[105, 45, 104, 97, 107]⟩, .string ⟨#[105, 45, 107, 108, 105, 110, 103, 111, 110]⟩, .string ⟨#[105, 45, 108, 117, 120]⟩, .string ⟨#[105, 45, 109, 105, 110, 103, 111]⟩, .string ⟨#[105, 45, 110, 97, 118, 97, 106, 111]⟩, .string ⟨#[105, 45, 112, 119, 110]⟩, .string ⟨#[105, 45, 116, 97, 111]⟩, .string ⟨#[105, 45, 116, 97, 121]⟩, .string ⟨#[105, 45, 116, 115, 117]⟩, .string ⟨#[110, 111, 45, 98, 111, 107]⟩, .string ⟨#[110, 111, 45, 110, 121, 110]⟩, .string ⟨#[115, 103, 110, 45, 98, 101, 45, 102, 114]⟩, .string ⟨#[115, 103, 110, 45, 98, 101, 45, 110, 108]⟩, .string ⟨#[115, 103, 110, 45, 99, 104, 45, 100, 101]⟩, .string ⟨#[122, 104, 45, 103, 117, 111, 121, 117]⟩, .string ⟨#[122, 104, 45, 104, 97, 107, 107, 97]⟩, .string ⟨#[122, 104, 45, 109, 105, 110]⟩, .string ⟨#[122, 104, 45, 109, 105, 110, 45, 110, 97, 110]⟩, .string ⟨#[122, 104, 45, 120, 105, 97, 110, 103]⟩] t frozen | o => o) }
theorem laidWorld_met (os : Os) (args : Array Value) : laidMetH Tryz.prog Rows.parseRightRow.laid ((laidWorld os).forCall (fun _ _ => 0) ⟨#[], args, []⟩).memory :=
  laidMetH_of_parts (laidMet_of_run' 8 (by kernel_rfl) (by kernel_rfl)) (by kernel_rfl)
set_option maxRecDepth 100000 in
theorem lifted (os : Os) (started : os.Started) (H : Type) (enc : TypeId × Value → H) :
    ReturnsInHanded {} Tryz.checked os 9 .any (fun w args => (Rows.parseRightSpec.pre enc Tryz.prog Tryz.f9 [] false w args ∧ laidMetH Tryz.prog Rows.parseRightRow.laid w) ∧ sizedMet enc Tryz.prog Tryz.f9 (OpenSpec.ofChange Rows.parseRightSpec) false w args) (Rows.parseRightSpec.post enc Tryz.prog Tryz.f9 false true false false) := by
  refine returnsInHanded_of_change_and (C := Tryz.checked) (X := fun w _ => laidMetH Tryz.prog Rows.parseRightRow.laid w) (fun _ _ _ hh h => h.of_heap hh) own started (by kernel_rfl) Tryz.func9
    (ChangeSpec.witness_at (enc := enc) (C := Tryz.checked) (os := os) (X := fun w _ => laidMetH Tryz.prog Rows.parseRightRow.laid w) false (laidWorld os) #[.string ByteArray.empty, .agg #[.int .i64 0, .int .i64 0, .int .i64 0, .int .i64 0, .slice none 0 0, .slice none 0 0, .slice none 0 0, .int .i64 0], .agg #[.int .i64 0, .int .i64 0, .int .i64 0]] 8 rfl (by kernel_rfl) (by kernel_rfl) (by kernel_rfl) (by kernel_rfl) (by kernel_rfl) (laidWorld_met os _)) ?_
  intro W base args ds gs before hval0 hW hcnd hsz0 hL _
  have hsz : (DataW.weightsEach Tryz.prog (Tryz.f9.params.toList ++ Rows.parseRightSpec.plain.varTypes Tryz.prog) (ds ++ gs)).all (· ≤ reachBytes) = true := hsz0
  have hval : ∀ (j : Nat) t v, Tryz.f9.params[j]? = some t → args[j]? = some v → Value.okWide Tryz.prog W .any base t v := hval0
  have hW' := hW
  obtain ⟨p, q, hA0, hV, rfl, hfz, hnd⟩ := hW
  have hA : DataW.TrodAll enc Tryz.prog W 0 (fun _ => true) true Tryz.f9.params.toList args.toList ds p := hA0
  rw [Tryz.params9] at hA hval hsz
  obtain ⟨v0, vs0, d0, ds0, p0, q0, hargs, rfl, rfl, h0, r0⟩ := trodAll_cons hA
  obtain ⟨v1, vs1, d1, ds1, p1, q1, rfl, rfl, rfl, h1, r1⟩ := trodAll_cons r0
  obtain ⟨v2, vs2, d2, ds2, p2, q2, rfl, rfl, rfl, h2, r2⟩ := trodAll_cons r1
  obtain ⟨rfl, rfl, rfl⟩ := trodAll_nil r2
  obtain rfl : args = #[v0, v1, v2] := by cases args; simp_all
  obtain ⟨rfl, rfl⟩ := trodVars_none hV
  obtain ⟨a0, rfl, rfl, rfl, y0⟩ := open_string Tryz.underlying9 (hval 0 9 v0 rfl rfl) h0
  have w0 : a0.size ≤ 140737488351232 := by
    have z := sized_string hsz (j := 0) (t := 9) rfl rfl
    rw [Array.length_toList] at z
    exact z
  have k1 := h1
  have lt1 : ∀ x ∈ p1, x.block < W.heap.size := by obtain ⟨m, hm⟩ := k1; exact DataW.trod_lt m _ _ _ hm
  obtain ⟨s0_1, s1_1, s2_1, s3_1, A4_1, c4_1, l4_1, A5_1, c5_1, l5_1, A6_1, c6_1, l6_1, s7_1, rfl, u4_1, u5_1, u6_1⟩ := P.openSeed (hval 1 24 v1 rfl rfl) h1
  obtain ⟨xs2, rfl, hz2⟩ : ∃ xs, v2 = .agg xs ∧ xs.size = 3 := by
    have := hval 2 43 v2 rfl rfl
    simp only [Value.okWide, Tryz.underlying43] at this
    obtain ⟨cs, e1, e2, _⟩ := this
    exact ⟨cs, e1, e2.trans (by kernel_rfl)⟩
  obtain ⟨b0_2, b1_2, b2_2, rfl⟩ : ∃ b0_2 b1_2 b2_2, xs2 = #[b0_2, b1_2, b2_2] := by
    rcases xs2 with ⟨_ | ⟨x0, _ | ⟨x1, _ | ⟨x2, _ | ⟨x3, l⟩⟩⟩⟩⟩ <;> simp at hz2
    exact ⟨x0, x1, x2, rfl⟩
  have k2 := h2
  have lt2 : ∀ x ∈ p2, x.block < W.heap.size := by obtain ⟨m, hm⟩ := k2; exact DataW.trod_lt m _ _ _ hm
  have all2 : ∃ (q0_2 : Int) (q1_2 : Int) (q2_2 : Int), b0_2 = .int .i64 q0_2 ∧ b1_2 = .int .i64 q1_2 ∧ b2_2 = .int .i64 q2_2 := by
    obtain ⟨fuel, hf⟩ := h2
    obtain ⟨zs, m, _, _, _, hzl, hall⟩ := DataW.trod_array Tryz.underlying43 hf
    have hc : Tryz.prog.cellsOf 3 = 1 := by kernel_rfl
    have g0 := hall 0 (by decide)
    rw [hc, List.getElem?_eq_getElem (by omega)] at g0
    obtain ⟨q0, e0, _⟩ := DataW.trod_int Tryz.underlying3 g0
    have g1 := hall 1 (by decide)
    rw [hc, List.getElem?_eq_getElem (by omega)] at g1
    obtain ⟨q1, e1, _⟩ := DataW.trod_int Tryz.underlying3 g1
    have g2 := hall 2 (by decide)
    rw [hc, List.getElem?_eq_getElem (by omega)] at g2
    obtain ⟨q2, e2, _⟩ := DataW.trod_int Tryz.underlying3 g2
    exact ⟨q0, q1, q2, (List.cons.inj e0).1, (List.cons.inj e1).1, (List.cons.inj e2).1⟩
  obtain ⟨q0_2, q1_2, q2_2, rfl, rfl, rfl⟩ := all2
  clear hA0 hval0 hsz0 hsz
  obtain ⟨k, h⟩ := Pure.ParseRight a0 s0_1 s1_1 s2_1 s3_1 l4_1 l5_1 l6_1 s7_1 q0_2 q1_2 q2_2 w0
  have hg := given_of_laid hL
  refine (P.w7_ParseRight.calls k a0 s0_1 s1_1 s2_1 s3_1 _ _ l4_1 _ _ l5_1 _ _ l6_1 s7_1 q0_2 q1_2 q2_2 true W u4_1.1 u4_1.2 u5_1.1 u5_1.2 u6_1.1 u6_1.2 hg h).mono fun e W' ⟨he, bel⟩ => ?_
  subst he
  exact ⟨_, rfl, _, _, _, [], _, [], hW', trodAll_mk1 (shut_bool Tryz.underlying4 _), (trodAll_cons_mk (shut_string Tryz.underlying9 y0) (trodAll_cons_mk (Below.trod laidOut (by kernel_rfl) (of_decide_eq_true (by kernel_rfl)) k1 bel lt1) (trodAll_cons_mk (Below.trod laidOut (by kernel_rfl) (of_decide_eq_true (by kernel_rfl)) k2 bel lt2) trodAll_mk0))), rfl, bel.frame _, fun h => by cases h⟩
theorem over : Rows.parseRightRow.holds Tryz.pinned (OpenSpec.ofChange Rows.parseRightSpec) :=
  OpenClaim.holds_of_wide 9 Tryz.f9 rfl rfl rfl rfl rfl rfl rfl ⟨rfl, rfl, rfl, rfl, rfl⟩ rfl rfl rfl rfl rfl (by kernel_rfl) Tryz.func9 (by kernel_rfl)
    (of_decide_eq_true (by kernel_rfl)) (by unfold Func.isWrapper; first | (rw [if_pos (by decide +kernel)]; kernel_rfl) | (rw [if_neg (by decide +kernel)]; exact ⟨rfl, rfl⟩))
    (fun os started H enc _ => lifted os started H enc)
theorem proved : Rows.ParseRightSaid := over
theorem card_holds : Claim7.holds Tryz.pinned (.plain (OpenSpec.ofChange Rows.parseRightSpec)) Rows.parseRightCard :=
  Claim7.holds_tied_plain_at .later [] [.handle, .data] true (true, "d645e8aaa43e1075398d76794bba2b32ef3669f25c3a8a0a11b535e6af393dee") true
    proved (fun _ h => by cases h) (by kernel_rfl) (fun _ h => by cases h) parseRight_row_tie rfl ⟨rfl, rfl⟩ (by kernel_rfl) rfl
    (fun f fn hf hfn => by
      obtain rfl : f = 9 := Option.some.inj ((show Tryz.prog.funcNamed "isogloss/isoglosslaw07.ParseRight" = some 9 by kernel_rfl).symm.trans hf) |>.symm
      obtain rfl : fn = Tryz.f9 := (Option.some.inj (Tryz.func9.symm.trans hfn)).symm
      exact ⟨by kernel_rfl, fun j t ht => by
        rw [Tryz.params9] at ht
        have h : t = 9 ∨ t = 24 ∨ t = 43 := by
          rcases j with _ | j
          · have h_ := (Option.some.inj ht).symm; exact .inl h_
          rcases j with _ | j
          · have h_ := (Option.some.inj ht).symm; exact .inr (.inl h_)
          rcases j with _ | j
          · have h_ := (Option.some.inj ht).symm; exact .inr (.inr (h_))
          exact absurd ht (by simp)
        rcases h with h | h | h
        · subst h; exact (show Tryz.prog.wantsStandIn 9 = false by kernel_rfl)
        · subst h; exact (show Tryz.prog.wantsStandIn 24 = false by kernel_rfl)
        · subst h; exact (show Tryz.prog.wantsStandIn 43 = false by kernel_rfl)⟩)
    (by kernel_rfl)
#print axioms card_holds
end Go.Proofs.YtejnfbfikadpdaaGreatDoor.parseRight
namespace Go.Proofs.YtejnfbfikadpdaaGreatDoor
theorem parseRight_holds : Rows.ParseRightCardSaid := parseRight.card_holds
end Go.Proofs.YtejnfbfikadpdaaGreatDoor
