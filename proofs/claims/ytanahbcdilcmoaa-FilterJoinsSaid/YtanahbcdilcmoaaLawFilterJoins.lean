/- The row of the law FilterJoins: its arguments opened, the printed walk, handed back. Condition: none but the row's own. -/
import Derived.Test.YtanahbcdilcmoaaRows
import Derived.Test.YtanahbcdilcmoaaPx15
import Derived.Test.YtanahbcdilcmoaaPureFilterJoins
import Derived.WalkKit
import Derived.ProofKit
import Derived.OpenShut
import Derived.ShutString
import Derived.ChangeOld
import Derived.Below
import Derived.SizedLaws
import Derived.SliceStrings
import Derived.Test.YtanahbcdilcmoaaWSized
namespace Go.Proofs.Ytanahbcdilcmoaa.filterJoins
open Go.ChangeShapes Go.WideShapes Go.ChangeAt Go.RowKit Go.Proofs.YtanahbcdilcmoaaW.PrintWords
open Go.ChangeMaps (open_string shut_string)
set_option linter.unusedVariables false
theorem own : ownKnob Try.prog.godebug = none := by kernel_rfl
theorem laidOut : laidOutB Try.prog = true := by kernel_rfl
theorem rowOf {H : Type} {enc : TypeId × Value → H} {W : World} {m : Nat} {v : Value} {x : DataW H × List MemPlace} (hf : DataW.trod enc Try.prog W 0 (fun _ => true) true m 25 [v] = some x) :
    ∃ (a : Option Addr) (c : Nat) (l : List ByteArray), v = .slice a l.length c ∧ Kd.C Kd.string W a l.length l ∧ l.length ≤ c := by
  rcases open_strings Try.underlying25 Try.underlying9 (by kernel_rfl) hf with ⟨hcs, _⟩ | ⟨x, n, c, ss, hcs, _, hl, hm, hz, _, hcell, hws⟩
  · obtain rfl := List.cons.inj hcs |>.1
    exact ⟨none, 0, [], rfl, Kd.C_of_reads (enc := Value.string) (d := ByteArray.empty) (h1 := fun _ => rfl) ⟨rfl, by decide, fun h => absurd h (Nat.lt_irrefl _)⟩, Nat.le_refl _⟩
  · obtain rfl := List.cons.inj hcs |>.1
    have hzc : ss.length = c := by simpa using hz
    have hlen : (ss.take n).length = n := by rw [List.length_take]; omega
    refine ⟨some x, c, ss.take n, by rw [hlen], Kd.C_of_reads (enc := Value.string) (d := ByteArray.empty) (h1 := fun _ => rfl) ⟨rfl, ?_, fun _ => ⟨x, rfl, fun j hj => ?_⟩⟩, by omega⟩
    · rw [hlen]; have : maxLen ≤ 9223372036854775807 := by decide
      omega
    · rw [hlen] at hj
      rw [hcell j (by omega)]
      congr 2
      rw [List.getD_eq_getElem?_getD, List.getD_eq_getElem?_getD, List.getElem?_take_of_lt hj]
set_option maxRecDepth 100000 in
theorem lifted (os : Os) (started : os.Started) (H : Type) (enc : TypeId × Value → H) :
    ReturnsInHanded {} Try.checked os 8 .any (Rows.filterJoinsSpec.pre6 enc Try.prog Try.f8 Rows.filterJoinsRow.domain false) (Rows.filterJoinsSpec.post enc Try.prog Try.f8 false true false false) := by
  refine returnsInHanded_of_change_sized (C := Try.checked) own started (by kernel_rfl) Try.func8
    (ChangeSpec.witness6 (enc := enc) (C := Try.checked) false ⟨#[], #[.slice none 0 0, .agg #[.slice none 0 0, .slice none 0 0], .string ByteArray.empty], []⟩ 8 (by kernel_rfl) (by kernel_rfl) (by kernel_rfl) (by kernel_rfl)) ?_
  intro W base args ds gs before hval0 hW hcnd hsz0 _
  have hsz : (DataW.weightsEach Try.prog (Try.f8.params.toList ++ Rows.filterJoinsSpec.plain.varTypes Try.prog) (ds ++ gs)).all (· ≤ reachBytes) = true := hsz0
  have hval : ∀ (j : Nat) t v, Try.f8.params[j]? = some t → args[j]? = some v → Value.okWide Try.prog W .any base t v := hval0
  have hW' := hW
  obtain ⟨p, q, hA0, hV, rfl, hfz, hnd⟩ := hW
  have hA : DataW.TrodAll enc Try.prog W 0 (fun _ => true) true Try.f8.params.toList args.toList ds p := hA0
  rw [Try.params8] at hA hval hsz
  obtain ⟨v0, vs0, d0, ds0, p0, q0, hargs, rfl, rfl, h0, r0⟩ := trodAll_cons hA
  obtain ⟨v1, vs1, d1, ds1, p1, q1, rfl, rfl, rfl, h1, r1⟩ := trodAll_cons r0
  obtain ⟨v2, vs2, d2, ds2, p2, q2, rfl, rfl, rfl, h2, r2⟩ := trodAll_cons r1
  obtain ⟨rfl, rfl, rfl⟩ := trodAll_nil r2
  obtain rfl : args = #[v0, v1, v2] := by cases args; simp_all
  obtain ⟨rfl, rfl⟩ := trodVars_none hV
  obtain ⟨a0, len0, cap0, rfl⟩ := okWide_slice Try.underlying25 (hval 0 25 v0 rfl rfl)
  have k0 := h0
  have lt0 : ∀ x ∈ p0, x.block < W.heap.size := by obtain ⟨m, hm⟩ := k0; exact DataW.trod_lt m _ _ _ hm
  obtain ⟨l0, rfl, hr0, hc0⟩ : ∃ l : List ByteArray, len0 = l.length ∧ Kd.C Kd.string W a0 l.length l ∧ l.length ≤ cap0 := by
    obtain ⟨fuel, hf⟩ := h0
    rcases open_strings Try.underlying25 Try.underlying9 (by kernel_rfl) hf with ⟨hcs, _⟩ | ⟨x, l, c, ss, hcs, _, hl, hm, hz, _, hcell, hws⟩
    · simp [Value.cells] at hcs
      obtain ⟨rfl, rfl, rfl⟩ := hcs
      exact ⟨[], rfl, Kd.C_of_reads (enc := Value.string) (d := ByteArray.empty) (h1 := fun _ => rfl) ⟨rfl, by decide, fun h => absurd h (Nat.lt_irrefl _)⟩, Nat.le_refl _⟩
    · simp [Value.cells] at hcs
      obtain ⟨rfl, rfl, rfl⟩ := hcs
      have hzc : ss.length = cap0 := by simpa using hz
      have hlen : (ss.take len0).length = len0 := by rw [List.length_take]; omega
      refine ⟨ss.take len0, hlen.symm, Kd.C_of_reads (enc := Value.string) (d := ByteArray.empty) (h1 := fun _ => rfl) ⟨rfl, ?_, fun _ => ⟨x, rfl, fun j hj => ?_⟩⟩, by omega⟩
      · rw [hlen]; have : maxLen ≤ 9223372036854775807 := by decide
        omega
      · rw [hlen] at hj
        rw [hcell j (by omega)]
        congr 2
        rw [List.getD_eq_getElem?_getD, List.getD_eq_getElem?_getD, List.getElem?_take_of_lt hj]
  obtain ⟨xs1, rfl, hz1⟩ : ∃ xs, v1 = .agg xs ∧ xs.size = 2 := by
    have := hval 1 33 v1 rfl rfl
    simp only [Value.okWide, Try.underlying33] at this
    obtain ⟨cs, e1, e2, _⟩ := this
    exact ⟨cs, e1, e2.trans (by kernel_rfl)⟩
  obtain ⟨x1, y1, rfl⟩ : ∃ x y, xs1 = #[x, y] := by
    rcases xs1 with ⟨_ | ⟨a, _ | ⟨b, _ | ⟨c, l⟩⟩⟩⟩ <;> simp at hz1
    exact ⟨a, b, rfl⟩
  have k1 := h1
  have lt1 : ∀ x ∈ p1, x.block < W.heap.size := by obtain ⟨m, hm⟩ := k1; exact DataW.trod_lt m _ _ _ hm
  have both1 : ∃ m z z', DataW.trod enc Try.prog W 0 (fun _ => true) true m 25 [x1] = some z ∧ DataW.trod enc Try.prog W 0 (fun _ => true) true m 25 [y1] = some z' := by
    obtain ⟨fuel, hf⟩ := h1
    obtain ⟨zs, m, _, _, _, hzl, hall⟩ := DataW.trod_array Try.underlying33 hf
    have hc : Try.prog.cellsOf 25 = 1 := by kernel_rfl
    have h0 := hall 0 (by decide)
    have h1 := hall 1 (by decide)
    rw [hc] at h0 h1
    rw [List.getElem?_eq_getElem (by omega)] at h0 h1
    exact ⟨m, _, _, h0, h1⟩
  obtain ⟨m1, z1, z1', hzx, hzy⟩ := both1
  obtain ⟨a1, cap1, l1, rfl, hr1, hc1⟩ := rowOf hzx
  obtain ⟨a1b, cap1b, l1b, rfl, hr1b, hc1b⟩ := rowOf hzy
  clear hzx hzy
  obtain ⟨a2, rfl, rfl, rfl, y2⟩ := open_string Try.underlying9 (hval 2 9 v2 rfl rfl) h2
  have w2 : a2.size ≤ 140737488351232 := by
    have z := sized_string hsz (j := 2) (t := 9) rfl rfl
    rw [Array.length_toList] at z
    exact z
  clear hA0 hval0 hsz0 hsz
  obtain ⟨k, h⟩ := Pure.FilterJoins l0 l1 a2 l1b w2
  refine (P.isoglosslaw20_FilterJoins.calls k _ _ l0 _ _ l1 a2 _ _ l1b true W hr0 hc0 hr1 hc1 hr1b hc1b h rfl).mono fun e W' ⟨he, bel⟩ => ?_
  subst he
  exact ⟨_, rfl, _, _, _, [], _, [], hW', trodAll_mk1 (shut_bool Try.underlying4 _), (trodAll_cons_mk (Below.trod laidOut (by kernel_rfl) (of_decide_eq_true (by kernel_rfl)) k0 bel lt0) (trodAll_cons_mk (Below.trod laidOut (by kernel_rfl) (of_decide_eq_true (by kernel_rfl)) k1 bel lt1) (trodAll_cons_mk (shut_string Try.underlying9 y2) trodAll_mk0))), rfl, bel.frame _, fun h => by cases h⟩
theorem over : Rows.filterJoinsRow.holds Try.pinned (OpenSpec.ofChange Rows.filterJoinsSpec) :=
  OpenClaim.holds_of_wide 8 Try.f8 rfl rfl rfl rfl rfl rfl rfl ⟨rfl, rfl, rfl, rfl, rfl⟩ rfl rfl rfl rfl rfl (by kernel_rfl) Try.func8 (by kernel_rfl)
    (of_decide_eq_true (by kernel_rfl)) (by unfold Func.isWrapper; first | (rw [if_pos (by decide +kernel)]; kernel_rfl) | (rw [if_neg (by decide +kernel)]; exact ⟨rfl, rfl⟩))
    (fun os started H enc _ => lifted os started H enc)
theorem proved : Rows.FilterJoinsSaid := over
#print axioms proved
end Go.Proofs.Ytanahbcdilcmoaa.filterJoins
namespace Go.Proofs.Ytanahbcdilcmoaa
/-- The row, under a short name, for the claim. -/
theorem filterJoins_holds : Rows.FilterJoinsSaid := filterJoins.proved
end Go.Proofs.Ytanahbcdilcmoaa
