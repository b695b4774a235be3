/- The tied card of the law FaultHas: its arguments opened, the printed walk, handed back. Condition: none but the card's own. -/
import Derived.Test.YtlngefnimnjkkaaDoorRows
import Derived.Test.YtlngefnimnjkkaaDoorWalkFaultHas
import Derived.Test.YtlngefnimnjkkaaDoorPureFaultHas
import Derived.Test.YtlngefnimnjkkaaDoorTie
import Derived.Test.YtlngefnimnjkkaaDoorCards
import Derived.SevenTiedAt
import Derived.LaidLaws
import Derived.LaidHandle
import Derived.Handed
import Derived.WalkKit
import Derived.ProofKit
import Derived.OpenShut
import Derived.ShutString
import Derived.ChangeOld
import Derived.Below
import Derived.SizedLaws
import Derived.SliceStrings
import Derived.Test.YtlngefnimnjkkaaDoorWSized
import Derived.Deep.SlicePairs
namespace Go.Proofs.YtlngefnimnjkkaaDoor.faultHas
open Go.ChangeShapes Go.WideShapes Go.ChangeAt Go.RowKit Go.Proofs.YtlngefnimnjkkaaDoorW.PrintWords
open Go.ChangeMaps (open_string shut_string)
set_option linter.unusedVariables false
theorem own : ownKnob Tryd.prog.godebug = none := by kernel_rfl
theorem laidOut : laidOutB Tryd.prog = true := by kernel_rfl
instance : Inhabited P.S43 := ⟨P.z43⟩
theorem et : Tryd.prog.globalNamed "errors.errorType" = some 0 := by kernel_rfl
theorem rt : (Tryd.prog.cutTypes.find? (·.1 == "internal/reflectlite.rtype")).map (·.2) = some 81 := by kernel_rfl
theorem oneRow : ((List.range 139).filter fun t => Tryd.prog.rowNamed t [101, 114, 114, 111, 114]) = [29] := by kernel_rfl
theorem size : Tryd.prog.types.size = 139 := by kernel_rfl
/-- What the condition gives a walk: the variable's one cell. -/
theorem handle_of_laid {W : World} (h : laidMetH Tryd.prog Rows.faultHasRow.laid W) : W.cell? ⟨0, 0, none⟩ = some P.errGV := by
  have h' : laidMet Tryd.prog [] W ∧ handlesMet Tryd.prog Rows.faultHasRow.laid W := h
  obtain ⟨name, u, ty, e1, e2, e3, e4, e5⟩ := h'.2 _ (List.mem_singleton.2 rfl)
  have en : name = [101, 114, 114, 111, 114] := (Option.some.inj e1).symm
  subst en
  obtain rfl := Option.some.inj (rt.symm.trans e2)
  have hm : ty ∈ (List.range 139).filter fun t => Tryd.prog.rowNamed t [101, 114, 114, 111, 114] := List.mem_filter.2 ⟨List.mem_range.2 (by rw [← size]; exact e3), e4⟩
  rw [oneRow] at hm
  obtain rfl := List.mem_singleton.1 hm
  have hh : typeHandle Tryd.prog 29 = .pointer (some ⟨4, 29, none⟩) := by kernel_rfl
  rw [hh] at e5
  simpa using World.var?_cell et e5 0
/-- A world that meets the condition: the settled one, the variable's cell laid. -/
noncomputable def laidWorld (os : Os) : World :=
  let w0 := World.holding Tryd.prog os ⟨#[], #[], []⟩
  { w0 with heap := w0.heap.modify 0 fun
      | .cells _ t frozen => .cells #[P.errGV] t frozen
      | o => o }
theorem laidWorld_met (os : Os) (args : Array Value) : laidMetH Tryd.prog Rows.faultHasRow.laid ((laidWorld os).forCall (fun _ _ => 0) ⟨#[], args, []⟩).memory :=
  laidMetH_of_parts (laidMet_nil _ _) (by kernel_rfl)
set_option maxRecDepth 100000 in
theorem lifted (os : Os) (started : os.Started) (H : Type) (enc : TypeId × Value → H) :
    ReturnsInHanded {} Tryd.checked os 4 .any (fun w args => (Rows.faultHasSpec.pre enc Tryd.prog Tryd.f4 [] false w args ∧ laidMetH Tryd.prog Rows.faultHasRow.laid w) ∧ sizedMet enc Tryd.prog Tryd.f4 (OpenSpec.ofChange Rows.faultHasSpec) false w args) (Rows.faultHasSpec.post enc Tryd.prog Tryd.f4 false true false false) := by
  refine returnsInHanded_of_change_and (C := Tryd.checked) (X := fun w _ => laidMetH Tryd.prog Rows.faultHasRow.laid w) (fun _ _ _ hh h => h.of_heap hh) own started (by kernel_rfl) Tryd.func4
    (ChangeSpec.witness_at (enc := enc) (C := Tryd.checked) (os := os) (X := fun w _ => laidMetH Tryd.prog Rows.faultHasRow.laid w) false (laidWorld os) #[.slice none 0 0, .int .i64 0, .int .i64 0] 8 rfl (by kernel_rfl) (by kernel_rfl) (by kernel_rfl) (by kernel_rfl) (by kernel_rfl) (laidWorld_met os _)) ?_
  intro W base args ds gs before hval0 hW hcnd hsz0 hL _
  have hsz : (DataW.weightsEach Tryd.prog (Tryd.f4.params.toList ++ Rows.faultHasSpec.plain.varTypes Tryd.prog) (ds ++ gs)).all (· ≤ reachBytes) = true := hsz0
  have hval : ∀ (j : Nat) t v, Tryd.f4.params[j]? = some t → args[j]? = some v → Value.okWide Tryd.prog W .any base t v := hval0
  have hW' := hW
  obtain ⟨p, q, hA0, hV, rfl, hfz, hnd⟩ := hW
  have hA : DataW.TrodAll enc Tryd.prog W 0 (fun _ => true) true Tryd.f4.params.toList args.toList ds p := hA0
  rw [Tryd.params4] at hA hval hsz
  obtain ⟨v0, vs0, d0, ds0, p0, q0, hargs, rfl, rfl, h0, r0⟩ := trodAll_cons hA
  obtain ⟨v1, vs1, d1, ds1, p1, q1, rfl, rfl, rfl, h1, r1⟩ := trodAll_cons r0
  obtain ⟨v2, vs2, d2, ds2, p2, q2, rfl, rfl, rfl, h2, r2⟩ := trodAll_cons r1
  obtain ⟨rfl, rfl, rfl⟩ := trodAll_nil r2
  obtain rfl : args = #[v0, v1, v2] := by cases args; simp_all
  obtain ⟨rfl, rfl⟩ := trodVars_none hV
  obtain ⟨a0, len0, cap0, rfl⟩ := okWide_slice Tryd.underlying23 (hval 0 23 v0 rfl rfl)
  have k0 := h0
  have lt0 : ∀ x ∈ p0, x.block < W.heap.size := by obtain ⟨m, hm⟩ := k0; exact DataW.trod_lt m _ _ _ hm
  obtain ⟨l0, rfl, hr0, hc0⟩ : ∃ l : List P.S43, len0 = l.length ∧ Kd.C P.k43 W a0 l.length l ∧ l.length ≤ cap0 := by
    obtain ⟨fuel, hf⟩ := h0
    rcases Go.Deep.open_slice_pairs Tryd.underlying23 Tryd.underlying43 (by kernel_rfl) rfl rfl (by kernel_rfl) (by kernel_rfl) hf with ⟨hcs, _⟩ | ⟨x, l, c, m, n, V0, V1, D0, D1, P0, P1, hcs, _, hl, hm, hz, _, hcell⟩
    · simp [Value.cells] at hcs
      obtain ⟨rfl, rfl, rfl⟩ := hcs
      exact ⟨[], rfl, Kd.C_nil _ _, Nat.le_refl _⟩
    · simp [Value.cells] at hcs
      obtain ⟨rfl, rfl, rfl⟩ := hcs
      have hzc : m = cap0 := by simpa using hz
      have each : ∀ i, i < len0 → ∃ y : P.S43, W.cell? (x.add (i * 2)) = some (.int .i64 y.f0) ∧ W.cell? (x.add (i * 2 + 1)) = some (.string y.f1) := by
        intro i hi
        obtain ⟨h0, h1, g0, g1⟩ := hcell i (by omega)
        obtain ⟨z, e0, _⟩ := DataW.trod_int Tryd.underlying3 g0
        obtain ⟨u, e1, _⟩ := DataW.trod_string Tryd.underlying9 g1
        rw [List.cons.inj e0 |>.1] at h0
        rw [List.cons.inj e1 |>.1] at h1
        exact ⟨⟨z, u⟩, h0, h1⟩
      obtain ⟨q, hq⟩ := Go.Deep.choose_lt each
      have hlen : ((List.range len0).map q).length = len0 := by rw [List.length_map, List.length_range]
      refine ⟨(List.range len0).map q, hlen.symm, ⟨rfl, by rw [hlen]; have : maxLen ≤ 9223372036854775807 := (by decide); omega, fun hn => ⟨x, rfl, fun j p hj => ?_⟩⟩, by omega⟩
      obtain ⟨hjl, hjp⟩ := List.getElem?_eq_some_iff.1 hj
      have hjl' : j < len0 := by rw [hlen] at hjl; exact hjl
      have hp : q j = p := by rw [← hjp, List.getElem_map, List.getElem_range]
      subst hp
      obtain ⟨h0, h1⟩ := hq j hjl'
      refine ⟨[.int .i64 (q j).f0, .string (q j).f1], rfl, P.k43_mk W (q j), fun i u hu => ?_⟩
      match i, hu with
      | 0, hu => obtain rfl := Option.some.inj hu; exact h0
      | 1, hu => obtain rfl := Option.some.inj hu; exact h1
  obtain ⟨a1, rfl, rfl, rfl, w1⟩ := open_int Tryd.underlying3 (hval 1 3 v1 rfl rfl) h1
  obtain ⟨a2, rfl, rfl, rfl, w2⟩ := open_int Tryd.underlying3 (hval 2 3 v2 rfl rfl) h2
  clear hA0 hval0 hsz0 hsz
  obtain ⟨k, h⟩ := Pure.FaultHas l0 a1 a2 w1 w2
  have hg := handle_of_laid hL
  refine (P.isoglosslaw01_FaultHas.calls k _ _ l0 a1 a2 true W hr0 hc0 hg h rfl).mono fun e W' ⟨he, bel⟩ => ?_
  subst he
  exact ⟨_, rfl, _, _, _, [], _, [], hW', trodAll_mk1 (shut_bool Tryd.underlying4 _), (trodAll_cons_mk (Below.trod laidOut (by kernel_rfl) (of_decide_eq_true (by kernel_rfl)) k0 bel lt0) (trodAll_cons_mk (shut_int Tryd.underlying3 w1) (trodAll_cons_mk (shut_int Tryd.underlying3 w2) trodAll_mk0))), rfl, bel.frame _, fun h => by cases h⟩
theorem over : Rows.faultHasRow.holds Tryd.pinned (OpenSpec.ofChange Rows.faultHasSpec) :=
  OpenClaim.holds_of_wide 4 Tryd.f4 rfl rfl rfl rfl rfl rfl rfl ⟨rfl, rfl, rfl, rfl, rfl⟩ rfl rfl rfl rfl rfl (by kernel_rfl) Tryd.func4 (by kernel_rfl)
    (of_decide_eq_true (by kernel_rfl)) (by unfold Func.isWrapper; first | (rw [if_pos (by decide +kernel)]; kernel_rfl) | (rw [if_neg (by decide +kernel)]; exact ⟨rfl, rfl⟩))
    (fun os started H enc _ => lifted os started H enc)
theorem proved : Rows.FaultHasSaid := over
theorem card_holds : Claim7.holds Tryd.pinned (.plain (OpenSpec.ofChange Rows.faultHasSpec)) Rows.faultHasCard :=
  Claim7.holds_tied_plain_at .later [] [.handle] true (true, "0276cc39deb1f56eee9012848182c4990318a03eacba7860efcb0c68d14218b9") true
    proved (fun _ h => by cases h) (by kernel_rfl) (fun _ h => by cases h) faultHas_row_tie rfl ⟨rfl, rfl⟩ (by kernel_rfl) rfl
    (fun f fn hf hfn => by
      obtain rfl : f = 4 := Option.some.inj ((show Tryd.prog.funcNamed "isogloss/isoglosslaw01.FaultHas" = some 4 by kernel_rfl).symm.trans hf) |>.symm
      obtain rfl : fn = Tryd.f4 := (Option.some.inj (Tryd.func4.symm.trans hfn)).symm
      exact ⟨by kernel_rfl, fun j t ht => by
        rw [Tryd.params4] at ht
        have h : t = 23 ∨ t = 3 ∨ t = 3 := by
          rcases j with _ | j
          · have h_ := (Option.some.inj ht).symm; exact .inl h_
          rcases j with _ | j
          · have h_ := (Option.some.inj ht).symm; exact .inr (.inl h_)
          rcases j with _ | j
          · have h_ := (Option.some.inj ht).symm; exact .inr (.inr (h_))
          exact absurd ht (by simp)
        rcases h with h | h | h
        · subst h; exact (show Tryd.prog.wantsStandIn 23 = false by kernel_rfl)
        · subst h; exact (show Tryd.prog.wantsStandIn 3 = false by kernel_rfl)
        · subst h; exact (show Tryd.prog.wantsStandIn 3 = false by kernel_rfl)⟩)
    (by kernel_rfl)
#print axioms card_holds
end Go.Proofs.YtlngefnimnjkkaaDoor.faultHas
namespace Go.Proofs.YtlngefnimnjkkaaDoor
/-- The row, under a short name, for the claim. -/
theorem faultHas_holds : Rows.FaultHasCardSaid := faultHas.card_holds
end Go.Proofs.YtlngefnimnjkkaaDoor
