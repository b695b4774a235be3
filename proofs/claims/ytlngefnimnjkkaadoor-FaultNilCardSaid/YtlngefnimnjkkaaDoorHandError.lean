/- (*fault.Fault).Error, walked by hand: at nil, and at a fault without one in it. Condition: the place is an int64; strconv's table is as it is. -/
import Derived.Test.YtlngefnimnjkkaaDoorHandAs
import Derived.Test.YtlngefnimnjkkaaDoorShelf
import Derived.Deep.RegionHeld3
import Derived.Lib.AppendIntMem
import Derived.Lib.ItoaLen
namespace Go.Proofs.YtlngefnimnjkkaaDoor.P
open Go.RowKit Go.Shelf Go.Proofs.YtlngefnimnjkkaaDoorW.PrintWords
attribute [local go_sem] Oper.semAt_some
set_option linter.unusedVariables false
set_option linter.unusedSimpArgs false
theorem Error_nil (w : World) : Calls Tryd.prog 22 #[.pointer none] w fun e w' => e = .returned (.string ⟨#[110, 111, 110, 101]⟩) ∧ Below w.heap.size w w' := by
  go_enter Tryd.func22, Tryd.ntmps22
  go_wp2
  go_ret
  exact ⟨rfl, Below.refl _ _⟩
theorem below_grow (w : World) (k : Nat) (os : Array Obj) : Below w.heap.size w (Sort.grow (w.drewN k) os) :=
  ⟨rfl, rfl, rfl, by show w.heap.size ≤ (w.heap ++ os).size; simp, fun j hj => by show (w.heap ++ os)[j]? = w.heap[j]?; rw [Array.getElem?_append_left hj]⟩
/-- The text of a fault without one in it. -/
def plainText (p : Int) (s : ByteArray) : ByteArray := s ++ ⟨#[32, 97, 116, 32]⟩ ++ ⟨(Lib.itoa p).toArray⟩ ++ ⟨#[58, 32]⟩ ++ ⟨#[110, 111, 110, 101]⟩
set_option maxRecDepth 100000 in
set_option maxHeartbeats 4000000 in
theorem Error_at (B : Nat) (p : Int) (s : ByteArray) (n₀ : Nat) (w : World) (hs : s.size ≤ 12) (h0 : -9223372036854775808 ≤ p) (h1 : p ≤ 9223372036854775807) (hf : FaultAt w (B, p, s) .nilIface) (htab : Lib.TabIs Tryd.prog w "internal/strconv.uint64pow10" .u64 Lib.pow10Tab) :
    Calls Tryd.prog 22 #[.pointer (some ⟨B, 0, none⟩)] w fun e w' => e = .returned (.string (plainText p s)) ∧ Below w.heap.size w w' := by
  have f0 := hf.at_
  have f1 := hf.what
  have f2 := hf.inner
  have HT := Lib.hid (Lib.tabBelow_of_tabIs htab)
  obtain ⟨X, hX⟩ : ∃ X : ByteArray, X = ⟨(Lib.itoa p).toArray⟩ := ⟨_, rfl⟩
  have hX21 : X.size ≤ 21 := by rw [hX]; exact Lib.itoa_length_le p h0 h1
  have IC := Lib.hid (fun (W : World) (hb : Below w.heap.size w W) => show Calls Tryd.prog 27 #[.int .i64 p] W fun e w' => e = .returned (.string X) ∧ Below W.heap.size W w' by
    rw [hX]
    exact (Tryd.strconv_Itoa p h0 h1 W (HT.out.on hb).here).mono fun e w' ⟨he, kq, os, hw⟩ => ⟨he, by rw [hw]; exact below_grow _ _ _⟩)
  have q1 : s.size + 4 ≤ 9223372036854775807 := by omega
  have q2 : s.size + 4 + X.size ≤ 9223372036854775807 := by omega
  have q3 : s.size + 4 + X.size + 2 ≤ 9223372036854775807 := by omega
  have q4 : s.size + 4 + X.size + 2 + 4 ≤ 9223372036854775807 := by omega
  have z1 : s.size + (⟨#[32, 97, 116, 32]⟩ : ByteArray).size ≤ 9223372036854775807 := q1
  have z2 : (s ++ ⟨#[32, 97, 116, 32]⟩).size + X.size ≤ 9223372036854775807 := by rw [ByteArray.size_append]; exact q2
  have z3 : (s ++ ⟨#[32, 97, 116, 32]⟩ ++ X).size + (⟨#[58, 32]⟩ : ByteArray).size ≤ 9223372036854775807 := by rw [ByteArray.size_append, ByteArray.size_append]; exact q3
  have z4 : (s ++ ⟨#[32, 97, 116, 32]⟩ ++ X ++ ⟨#[58, 32]⟩).size + (⟨#[110, 111, 110, 101]⟩ : ByteArray).size ≤ 9223372036854775807 := by rw [ByteArray.size_append, ByteArray.size_append, ByteArray.size_append]; exact q4
  have r1 : s.size ≤ 9223372036854775803 := by omega
  have r3 : s.size + 4 + X.size ≤ 9223372036854775805 := by omega
  have r4 : s.size + 4 + X.size ≤ 9223372036854775801 := by omega
  have HXX := Lib.hid hX
  clear hX hX21 hs h0 h1 HT htab hf
  go_enter Tryd.func22, Tryd.ntmps22
  go_wp2
  have g0 := Lib.hid f0
  have g1 := Lib.hid f1
  have W0 : Hid (Below w.heap.size w w) := Lib.hid (Below.refl _ _)
  go_region_with (first
    | (go_at_call 27; refine (IC.out _ (by first | exact below_drew (Below.refl w.heap.size w) | exact Below.refl _ _)).mono ?_; rintro e w2 ⟨rfl, hb⟩; have K2 : Hid (Below w.heap.size w w2) := Lib.hid (by first | exact below_step (below_drew (Below.refl w.heap.size w)) hb | exact hb); have hc1 : w2.cell? ⟨B, 1, none⟩ = some (.string s) := pw_cell_below hb f1; clear hb))
  all_goals go_wp2
  all_goals go_ret
  all_goals exact ⟨by unfold plainText; rw [← HXX.out]; rfl, K2.out⟩
end Go.Proofs.YtlngefnimnjkkaaDoor.P
