/- A law's arguments that are tags of plain numbers, or tags: opened. -/
import Derived.Test.YtejnfbfikadpdaaGreatDoorPx0
import Derived.Test.YtejnfbfikadpdaaGreatDoorRows
import Derived.WalkKit
import Derived.ProofKit
import Derived.OpenShut
import Derived.SliceStrings
import Derived.Deep.SlicePairs
namespace Go.Proofs.YtejnfbfikadpdaaGreatDoor.P
open Go.ChangeShapes Go.WideShapes Go.ChangeAt Go.RowKit Go.Proofs.YtejnfbfikadpdaaGreatDoorW.PrintWords
set_option linter.unusedVariables false
set_option maxRecDepth 100000
theorem rowInt {H : Type} {enc : TypeId × Value → H} {W : World} {m : Nat} {v : Value} {x : DataW H × List MemPlace} (hf : DataW.trod enc Tryz.prog W 0 (fun _ => true) true m 22 [v] = some x) :
    ∃ (a : Option Addr) (c : Nat) (l : List Int), v = .slice a l.length c ∧ Kd.C (Kd.int .i64) W a l.length l ∧ l.length ≤ c := by
  rcases open_ints Tryz.underlying22 Tryz.underlying3 (by kernel_rfl) hf with ⟨hcs, _⟩ | ⟨x, n, c, ss, hcs, _, hl, hm, hz, _, hcell, hws⟩
  · obtain rfl := List.cons.inj hcs |>.1
    exact ⟨none, 0, [], rfl, Kd.C_of_reads (enc := Value.int .i64) (d := (0 : Int)) (h1 := fun _ => rfl) ⟨rfl, by decide, fun h => absurd h (Nat.lt_irrefl _)⟩, Nat.le_refl _⟩
  · obtain rfl := List.cons.inj hcs |>.1
    have hzc : ss.length = c := by simpa using hz
    have hlen : (ss.take n).length = n := by rw [List.length_take]; omega
    refine ⟨some x, c, ss.take n, by rw [hlen], Kd.C_of_reads (enc := Value.int .i64) (d := (0 : Int)) (h1 := fun _ => rfl) ⟨rfl, ?_, fun _ => ⟨x, rfl, fun j hj => ?_⟩⟩, by omega⟩
    · rw [hlen]; have : maxLen ≤ 9223372036854775807 := by decide
      omega
    · rw [hlen] at hj
      rw [hcell j (by omega)]
      congr 2
      rw [List.getD_eq_getElem?_getD, List.getD_eq_getElem?_getD, List.getElem?_take_of_lt hj]
instance : Inhabited S47 := ⟨z47⟩
theorem eight {l : List Value} (h : l.length = 8) : ∃ a b c d e f g i, l = [a, b, c, d, e, f, g, i] := by
  match l, h with
  | [a, b, c, d, e, f, g, i], _ => exact ⟨a, b, c, d, e, f, g, i, rfl⟩
theorem openSeed {H : Type} {enc : TypeId × Value → H} {W : World} {base : Nat} {v : Value} {d : DataW H} {p : List MemPlace} (hv : Value.okWide Tryz.prog W .any base 24 v) (h : DataW.Trod enc Tryz.prog W 0 (fun _ => true) true 24 v d p) :
    ∃ s0 s1 s2 s3 A4 c4 l4 A5 c5 l5 A6 c6 l6 s7, v = .agg #[.int .i64 s0, .int .i64 s1, .int .i64 s2, .int .i64 s3, .slice A4 (l4 : List Int).length c4, .slice A5 (l5 : List Int).length c5, .slice A6 (l6 : List Int).length c6, .int .i64 s7] ∧
      (Kd.C (Kd.int .i64) W A4 l4.length l4 ∧ l4.length ≤ c4) ∧ (Kd.C (Kd.int .i64) W A5 l5.length l5 ∧ l5.length ≤ c5) ∧ (Kd.C (Kd.int .i64) W A6 l6.length l6 ∧ l6.length ≤ c6) := by
  obtain ⟨cs, rfl, hsz⟩ := okWide_struct Tryz.underlying24 hv
  have hc : Tryz.prog.cellsOf 24 = 8 := by kernel_rfl
  have ci : Tryz.prog.cellsOf 3 = 1 := by kernel_rfl
  have cr : Tryz.prog.cellsOf 22 = 1 := by kernel_rfl
  obtain ⟨fuel, hf⟩ := h
  obtain ⟨v0, v1, v2, v3, v4, v5, v6, v7, e⟩ := eight (l := cs.toList) (by rw [Array.length_toList]; exact hsz.trans hc)
  obtain rfl : cs = #[v0, v1, v2, v3, v4, v5, v6, v7] := by rw [← Array.toList_inj, e]
  obtain ⟨xs, n, _, _, _, _, hall⟩ := DataW.trod_struct Tryz.underlying24 hf
  have q : ∀ (i : Nat) (f : Field) (u : Value), (#[v0, v1, v2, v3, v4, v5, v6, v7] : Array Value)[i]? = some u → ∀ y, xs[i]? = some y → DataW.trod enc Tryz.prog W 0 (fun _ => true) true n f.type [u] = xs[i]? → DataW.trod enc Tryz.prog W 0 (fun _ => true) true n f.type [u] = some y := fun _ _ _ _ y hy hd => hd.trans hy
  have hx : xs.length = 8 := by assumption
  match xs, hx with
  | [y0, y1, y2, y3, y4, y5, y6, y7], _ =>
    have g0 : DataW.trod enc Tryz.prog W 0 (fun _ => true) true n 3 [v0] = some y0 := by have := hall 0 _ rfl; simpa [ci, Value.cells] using this
    have g1 : DataW.trod enc Tryz.prog W 0 (fun _ => true) true n 3 [v1] = some y1 := by have := hall 1 _ rfl; simpa [ci, Value.cells] using this
    have g2 : DataW.trod enc Tryz.prog W 0 (fun _ => true) true n 3 [v2] = some y2 := by have := hall 2 _ rfl; simpa [ci, Value.cells] using this
    have g3 : DataW.trod enc Tryz.prog W 0 (fun _ => true) true n 3 [v3] = some y3 := by have := hall 3 _ rfl; simpa [ci, Value.cells] using this
    have g4 : DataW.trod enc Tryz.prog W 0 (fun _ => true) true n 22 [v4] = some y4 := by have := hall 4 _ rfl; simpa [cr, Value.cells] using this
    have g5 : DataW.trod enc Tryz.prog W 0 (fun _ => true) true n 22 [v5] = some y5 := by have := hall 5 _ rfl; simpa [cr, Value.cells] using this
    have g6 : DataW.trod enc Tryz.prog W 0 (fun _ => true) true n 22 [v6] = some y6 := by have := hall 6 _ rfl; simpa [cr, Value.cells] using this
    have g7 : DataW.trod enc Tryz.prog W 0 (fun _ => true) true n 3 [v7] = some y7 := by have := hall 7 _ rfl; simpa [ci, Value.cells] using this
    obtain ⟨s0, e0, _⟩ := DataW.trod_int Tryz.underlying3 g0
    obtain ⟨s1, e1, _⟩ := DataW.trod_int Tryz.underlying3 g1
    obtain ⟨s2, e2, _⟩ := DataW.trod_int Tryz.underlying3 g2
    obtain ⟨s3, e3, _⟩ := DataW.trod_int Tryz.underlying3 g3
    obtain ⟨s7, e7, _⟩ := DataW.trod_int Tryz.underlying3 g7
    obtain ⟨A4, c4, l4, e4, r4, z4⟩ := rowInt g4
    obtain ⟨A5, c5, l5, e5, r5, z5⟩ := rowInt g5
    obtain ⟨A6, c6, l6, e6, r6, z6⟩ := rowInt g6
    refine ⟨s0, s1, s2, s3, A4, c4, l4, A5, c5, l5, A6, c6, l6, s7, ?_, ⟨r4, z4⟩, ⟨r5, z5⟩, ⟨r6, z6⟩⟩
    rw [(List.cons.inj e0).1, (List.cons.inj e1).1, (List.cons.inj e2).1, (List.cons.inj e3).1, e4, e5, e6, (List.cons.inj e7).1]
end Go.Proofs.YtejnfbfikadpdaaGreatDoor.P
