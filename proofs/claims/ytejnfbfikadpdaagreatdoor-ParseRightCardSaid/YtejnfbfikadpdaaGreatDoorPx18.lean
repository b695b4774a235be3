-- Written for this claim by the session's own run of the print, functions proved by hand put in.
import Derived.Shelf.Strings.Builder1
import Derived.Shelf.Strings.Builder2
import Derived.Shelf.Strings.OnBuilder
import Derived.Shelf.Strings.Search1
import Derived.Shelf.Strings.Search2
import Derived.Shelf.Strings.Search3
import Derived.Shelf.LaysM
import Derived.Shelf.Strings.Shaped
import Derived.Test.YtejnfbfikadpdaaGreatDoorProg
import Derived.Test.YtejnfbfikadpdaaGreatDoorSq
import Derived.Lib.Join
import Derived.Test.YtejnfbfikadpdaaGreatDoorPx0
import Derived.Test.YtejnfbfikadpdaaGreatDoorPureBase
namespace Go.Proofs
open Go.Shelf
def Tryz.lays156_ren : Go.Shelf.Ren := ⟨fun | 156 => 133 | 165 => 153 | 166 => 154 | 169 => 155 | 240 => 164 | 241 => 165 | 276 => 166 | 277 => 167 | n => n, fun | 31 => 26 | 9 => 9 | 3 => 3 | 4 => 4 | 0 => 0 | 20 => 20 | 72 => 176 | 76 => 178 | 70 => 174 | 37 => 79 | 75 => 33 | 127 => 188 | 164 => 117 | 5 => 5 | 80 => 113 | n => n, fun | n => n⟩
theorem Tryz.lays156 : Go.Proofs.Lays.n156 Tryz.prog Tryz.lays156_ren := {
  mixed := by kernel_rfl
  f156 := Tryz.func133.trans (congrArg some (by kernel_rfl))
  f165 := Tryz.func153.trans (congrArg some (by kernel_rfl))
  f166 := Tryz.func154.trans (congrArg some (by kernel_rfl))
  f169 := Tryz.func155.trans (congrArg some (by kernel_rfl))
  f240 := Tryz.func164.trans (congrArg some (by kernel_rfl))
  f241 := Tryz.func165.trans (congrArg some (by kernel_rfl))
  f276 := Tryz.func166.trans (congrArg some (by kernel_rfl))
  f277 := Tryz.func167.trans (congrArg some (by kernel_rfl))
  t0 := Tryz.underlying0
  a0 := Tryz.isAgg0
  z0 := Tryz.sizeOf0
  v0 := Tryz.zeroValue0
  t3 := Tryz.underlying3
  a3 := Tryz.isAgg3
  z3 := Tryz.sizeOf3
  v3 := Tryz.zeroValue3
  t4 := Tryz.underlying4
  a4 := Tryz.isAgg4
  z4 := Tryz.sizeOf4
  v4 := Tryz.zeroValue4
  t9 := Tryz.underlying9
  a9 := Tryz.isAgg9
  z9 := Tryz.sizeOf9
  v9 := Tryz.zeroValue9
  t20 := Tryz.underlying20
  a20 := Tryz.isAgg20
  z20 := Tryz.sizeOf20
  v20 := Tryz.zeroValue20
  t31 := Tryz.underlying26
  a31 := Tryz.isAgg26
  z31 := Tryz.sizeOf26
  v31 := Tryz.zeroValue26
  t37 := Tryz.underlying79
  a37 := Tryz.isAgg79
  z37 := Tryz.sizeOf79
  v37 := Tryz.zeroValue79
  t70 := Tryz.underlying174
  a70 := Tryz.isAgg174
  z70 := Tryz.sizeOf174
  v70 := Tryz.zeroValue174
  t72 := Tryz.underlying176
  a72 := Tryz.isAgg176
  z72 := Tryz.sizeOf176
  v72 := Tryz.zeroValue176
  t75 := Tryz.underlying33
  a75 := Tryz.isAgg33
  z75 := Tryz.sizeOf33
  v75 := Tryz.zeroValue33
  t76 := Tryz.underlying178
  a76 := Tryz.isAgg178
  z76 := Tryz.sizeOf178
  v76 := Tryz.zeroValue178
  t127 := Tryz.underlying188
  a127 := Tryz.isAgg188
  z127 := Tryz.sizeOf188
  v127 := Tryz.zeroValue188
  t164 := Tryz.underlying117
  a164 := Tryz.isAgg117
  z164 := Tryz.sizeOf117
  v164 := Tryz.zeroValue117 }
theorem Tryz.Builder_Extra_156 : Builder.Extra Tryz.prog Tryz.lays156_ren := {
  sizeBuilder := by kernel_rfl
  liesBuilder := by kernel_rfl
  t5 := Tryz.underlying5
  a5 := Tryz.isAgg5
  z5 := Tryz.sizeOf5
  v5 := Tryz.zeroValue5
  infoByte := by kernel_rfl
  cellsByte := by kernel_rfl
  sizeByte := by kernel_rfl
  neB5 := by decide }
open Go.RowKit in
theorem Tryz.strings_Join_none (a : Option Addr) (c : Nat) (sep : ByteArray) (w : World) :
    Calls Tryz.prog 133 #[.slice a 0 c, .string sep] w fun e w' => e = .returned (.string ⟨#[]⟩) ∧ w' = w := Any.strings_Join_none Tryz.lays156 Tryz.Builder_Extra_156 a c sep w
open Go.RowKit in
theorem Tryz.strings_Join (bk o c : Nat) (xs : List ByteArray) (sep : ByteArray) (w : World) (hcells : ∀ (j : Nat) x, xs[j]? = some x → w.cell? ⟨bk, o + j, none⟩ = some (.string x)) (hbk : bk < w.heap.size) (hN : xs.length ≤ 140737488355328) (hcap : xs.length ≤ c) (hlen : (Lib.join (xs.map (·.data.toList)) sep.data.toList).length ≤ 140737488355328) :
    Calls Tryz.prog 133 #[.slice (some ⟨bk, o, none⟩) xs.length c, .string sep] w fun e w' => e = .returned (.string ⟨(Lib.join (xs.map (·.data.toList)) sep.data.toList).toArray⟩) ∧ Below w.heap.size w w' := Any.strings_Join Tryz.lays156 Tryz.Builder_Extra_156 bk o c xs sep w hcells hbk hN hcap hlen
end Go.Proofs
namespace Go.Proofs.YtejnfbfikadpdaaGreatDoor.P
open Go.RowKit Go.Proofs.YtejnfbfikadpdaaGreatDoorW.PrintWords Go.Proofs.YtejnfbfikadpdaaGreatDoorW.PrintLast Go.Proofs.YtejnfbfikadpdaaGreatDoorW.PrintMore
attribute [local go_sem] max2_int min2_int max_two min_two max_three min_three max_four min_four   -- for this text's walks alone
set_option linter.unusedVariables false
set_option linter.unusedSimpArgs false
def strings_Join.f (l0 : List ByteArray) (a1 : ByteArray) : Option ByteArray := if l0.length ≤ 140737488355328 ∧ (Lib.join (l0.map (·.data.toList)) a1.data.toList).length ≤ 140737488355328 then some ⟨(Lib.join (l0.map (·.data.toList)) a1.data.toList).toArray⟩ else none
theorem strings_Join.calls (A0 : Option Addr) (c0 : Nat) (l0 : List ByteArray) (a1 : ByteArray) (r : ByteArray) (w : World) (hr0 : Kd.C Kd.string w A0 l0.length l0) (hc0 : l0.length ≤ c0) (h : strings_Join.f l0 a1 = some r) :
    Calls Tryz.prog 133 #[.slice A0 l0.length c0, .string a1] w fun e w' => e = .returned (.string r) ∧ Below w.heap.size w w' := by
  unfold strings_Join.f at h
  by_cases c : l0.length ≤ 140737488355328 ∧ (Lib.join (l0.map (·.data.toList)) a1.data.toList).length ≤ 140737488355328
  · rw [if_pos c] at h
    obtain rfl := Option.some.inj h
    cases l0 with
    | nil =>
      refine (Tryz.strings_Join_none A0 c0 a1 w).mono ?_
      rintro e w' ⟨rfl, rfl⟩
      exact ⟨rfl, Below.refl _ _⟩
    | cons x xs =>
      have hr := Kd.reads_of_C (enc := Value.string) (d := ByteArray.empty) (h1 := fun _ => rfl) hr0
      obtain ⟨ad, rfl, hcell⟩ := hr.2.2 (by simp)
      have h0 := hcell 0 (by simp)
      have hs : ad.spot = none := by
        cases hs : ad.spot with
        | none => rfl
        | some q =>
          have e0 : ad.add 0 = ad := by simp [Addr.add]
          rw [e0] at h0
          unfold World.cell? at h0
          split at h0
          · simp [hs] at h0
          · simp at h0
      obtain ⟨bk, o, sp⟩ := ad
      obtain rfl : sp = none := hs
      have hlt : bk < w.heap.size := World.block_lt_of_cell? w _ h0
      refine (Tryz.strings_Join bk o c0 (x :: xs) a1 w (fun j y hj => ?_) hlt c.1 hc0 c.2).mono ?_
      · have hl := (List.getElem?_eq_some_iff.1 hj).1
        have := hcell j hl
        rw [List.getD_eq_getElem?_getD, hj] at this
        have e1 : (⟨bk, o, none⟩ : Addr).add j = ⟨bk, o + j, none⟩ := by unfold Addr.add; split <;> simp_all
        rw [e1] at this
        exact this
      · rintro e w' ⟨rfl, hb⟩
        exact ⟨rfl, hb⟩
  · rw [if_neg c] at h; cases h
def split_Join.f (l0 : List ByteArray) : Option (ByteArray) := (strings_Join.f l0 (⟨#[45]⟩ : ByteArray)).bind fun aa => (some aa)
set_option maxHeartbeats 8000000 in
set_option maxRecDepth 100000 in
theorem split_Join.calls (A0 : Option Addr) (c0 : Nat) (l0 : List ByteArray) (r : ByteArray) (w : World) (hr0 : Kd.C Kd.string w A0 l0.length l0) (hc0 : l0.length ≤ c0) (h : split_Join.f l0 = some r) :
  Calls Tryz.prog 101 #[.slice A0 l0.length c0] w fun e w' => e = .returned (.string r) ∧ Below w.heap.size w w' := by
 have ae := Aside0.mk hr0
 have af := Aside0.mk hc0
 clear hr0 hc0
 have HB := Aside0.mk (Below.refl w.heap.size w)
 have H : ((strings_Join.f l0 (⟨#[45]⟩ : ByteArray)).bind fun aa => (some aa)) = some r := h
 clear h
 replace H := Option.bind_eq_some_iff.mp H
 obtain ⟨aa, ab, H⟩ := H
 replace H : (some aa) = some r := H
 have A2 := Aside0.mk ab
 clear ab
 obtain rfl := Option.some.inj H
 go_enter Tryz.func101, Tryz.ntmps101
 go_wp2_with (first | ((with_reducible refine gate_callee (f := 133) rfl ?_); refine goesL_ (some 4) rfl rfl Tryz.func133 (by kernel_rfl) rfl #[.slice A0 l0.length c0, .string (⟨#[45]⟩ : ByteArray)] rfl Qm ?_; (with_reducible refine (strings_Join.calls _ _ l0 (⟨#[45]⟩ : ByteArray) aa _ ?side1 ?side2 A2.out).mono ?_); (case side1 => repeat (first | exact ae.out | (with_reducible refine Kd.C_alloc ?_ _) | (with_reducible refine Kd.C_drewN ?_ _) | (with_reducible refine Kd.C_drew ?_))); (case side2 => exact af.out); rintro e w3 ⟨rfl, hb⟩; refine ⟨_, rfl, ?_⟩; have ac := Aside0.mk (below_step (Qw HB.out) hb); clear HB; have HB := ac; clear ac; (try clear hb); (try clear hb2); (try clear hk); (try clear hi)))
 go_ret
 exact ⟨Qe, Qw HB.out⟩
end Go.Proofs.YtejnfbfikadpdaaGreatDoor.P
