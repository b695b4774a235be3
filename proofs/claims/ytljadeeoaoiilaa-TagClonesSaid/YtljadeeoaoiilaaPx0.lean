-- Written for this claim by the session's own run of the print, functions proved by hand put in.
import Derived.Test.YtljadeeoaoiilaaProg
import Derived.Below
import Derived.Deep.Draws
import Derived.Deep.AppendLies
import Derived.Maps.AppendAt
import Derived.OwnWalk
import Derived.Laws.BytesArg
import Derived.Laws.MakeOwn
import Derived.Laws.OwnMore
import Derived.Deep.OwnRows
import Derived.Tactics
import Derived.Lib.ConvBytes
import Derived.Laws.Slices
import Derived.WalkKit
import Derived.KernelRfl
import Derived.RowKit3
import Derived.Deep.LoopGhost
import Derived.Deep.QuietTactic
import Derived.BigQuiet
import Derived.WideLaws
import Derived.Deep.DeepCutAuto
import Derived.Deep.CutBlock
import Derived.Deep.RegionHeld3
import Derived.Laws.Rows
import Derived.Lib.AppendStr
import Derived.ArgAppend
import Derived.Laws.IdiomCopy
import Derived.OrdersHeld
import Derived.Laws.BitsLemmas
import Derived.RowKit
import Derived.WalkMore
import Derived.Test.YtljadeeoaoiilaaHand1
import Derived.RangeFuncWrites
import Derived.Lib.Hide
import Derived.Test.YtljadeeoaoiilaaWWords
import Derived.Test.YtljadeeoaoiilaaWLast
import Derived.Test.YtljadeeoaoiilaaWTab
import Derived.Test.YtljadeeoaoiilaaWFour
import Derived.Test.YtljadeeoaoiilaaWQPut
import Derived.Test.YtljadeeoaoiilaaWApart
import Derived.Test.YtljadeeoaoiilaaWArr
import Derived.Test.YtljadeeoaoiilaaWZeros
import Derived.Test.YtljadeeoaoiilaaWFoot
import Derived.Test.YtljadeeoaoiilaaWKept
import Derived.Test.YtljadeeoaoiilaaWShare
import Derived.Test.YtljadeeoaoiilaaWN
import Derived.Test.YtljadeeoaoiilaaWFootNe
import Derived.Test.YtljadeeoaoiilaaWAt
import Derived.Test.YtljadeeoaoiilaaWEqStruct
import Derived.Test.YtljadeeoaoiilaaWRepsOne
import Derived.Test.YtljadeeoaoiilaaWInv
import Derived.Test.YtljadeeoaoiilaaWInvWords
import Derived.Test.YtljadeeoaoiilaaWGuard
import Derived.Test.YtljadeeoaoiilaaWNEv
import Derived.Test.YtljadeeoaoiilaaWMore
namespace Go.Proofs.Ytljadeeoaoiilaa.P
open Go.RowKit Go.Proofs.YtljadeeoaoiilaaW.PrintWords Go.Proofs.YtljadeeoaoiilaaW.PrintLast Go.Proofs.YtljadeeoaoiilaaW.PrintMore
attribute [local go_sem] max2_int min2_int max_two min_two max_three min_three max_four min_four   -- for this text's walks alone
set_option linter.unusedVariables false
set_option linter.unusedSimpArgs false
def errW : Option Int → Value
  | none => .nilIface
  | some c => .iface 0 (.int .i64 c)
theorem errW_none : errW none = .nilIface := rfl
theorem errW_some (c : Int) : errW (some c) = .iface 0 (.int .i64 c) := rfl
theorem info5 : (Try.prog.info? 5).map (fun i => (i.zero, i.size, i.bytes)) = some (some (.int .u8 0), 1, 1) := by kernel_rfl
theorem info9 : (Try.prog.info? 9).map (fun i => (i.zero, i.size, i.bytes)) = some (some (.string ⟨#[]⟩), 1, 16) := by kernel_rfl
theorem info44 : (Try.prog.info? 44).map (fun i => (i.zero, i.size, i.bytes)) = some (some (.agg #[(.string ⟨#[]⟩), (.slice none 0 0)]), 2, 40) := by kernel_rfl
theorem info66 : (Try.prog.info? 66).map (fun i => (i.zero, i.size, i.bytes)) = some (some (.agg #[(.int .i64 0), (.string ⟨#[]⟩)]), 2, 24) := by kernel_rfl
structure S44 where
  f0 : ByteArray
  f1 : (List ByteArray)
def z44 : S44 := ⟨(⟨#[]⟩ : ByteArray), ([] : List ByteArray)⟩
def k44 : Kd S44 := Kd.iso (Kd.pair Kd.string (Kd.slice 9 Kd.string)) (fun x : S44 => (x.f0, x.f1))
theorem k44_open {w : World} {x : S44} {cs : List Value} (h : k44.K w x cs) : ∃ A1 c1, cs = [.string x.f0, .slice A1 x.f1.length c1] ∧ x.f1.length ≤ c1 ∧ Kd.string.C w A1 x.f1.length x.f1 := by
  obtain ⟨_, _, rfl, rfl, ⟨A1, c1, rfl, l1, g1⟩⟩ := h
  exact ⟨A1, c1, rfl, l1, g1⟩
theorem k44_openM {w : World} {base : Nat} {ok : Nat → Prop} {x : S44} {cs : List Value} (h : k44.M w base ok x cs) : ∃ v1, cs = [.string x.f0, v1] ∧ Kd.string.R 9 w base ok v1 x.f1 := by
  obtain ⟨_, _, rfl, rfl, ⟨v1, rfl, g1⟩⟩ := h
  exact ⟨v1, rfl, g1⟩
theorem k44_mk (w : World) (x : S44) {A1 : Option Addr} {c1 : Nat} (l1 : x.f1.length ≤ c1) (g1 : Kd.string.C w A1 x.f1.length x.f1) : k44.K w x [.string x.f0, .slice A1 x.f1.length c1] := ⟨[.string x.f0], [.slice A1 x.f1.length c1], rfl, rfl, ⟨A1, c1, rfl, l1, g1⟩⟩
theorem k44_mkM (w : World) (base : Nat) (ok : Nat → Prop) (x : S44) {v1 : Value} (g1 : Kd.string.R 9 w base ok v1 x.f1) : k44.M w base ok x [.string x.f0, v1] := ⟨[.string x.f0], [v1], rfl, rfl, ⟨v1, rfl, g1⟩⟩
def rd_T44 (xs : List S44) (i : Int) : S44 := xs.getD i.toNat z44
theorem at_T44 {w : World} {A : Option Addr} {n : Nat} {xs : List S44} (h : Kd.C k44 w A n xs) (i : Int) (h0 : 0 ≤ i) (h1 : i < n) : ∃ ad A1 c1, A = some ad ∧ w.cell? (ad.add (i.toNat * 2)) = some (.string (rd_T44 xs i).f0) ∧ w.cell? ⟨(ad.add (i.toNat * 2)).block, (ad.add (i.toNat * 2)).off + 1, none⟩ = some (.slice A1 (rd_T44 xs i).f1.length c1) ∧ (rd_T44 xs i).f1.length ≤ c1 ∧ Kd.string.C w A1 (rd_T44 xs i).f1.length (rd_T44 xs i).f1 := by
  obtain ⟨ad, c, e, _, hK, hc0⟩ := Kd.C_get h z44 i h0 h1
  have hc : ∀ j u, c[j]? = some u → w.cell? (ad.add (i.toNat * 2 + j)) = some u := hc0
  obtain ⟨A1, c1, rfl, l1, g1⟩ := k44_open hK
  exact ⟨ad, A1, c1, e, hc 0 _ rfl, by rw [← add_field _ _ 1 (by omega)]; exact hc 1 _ rfl, l1, g1⟩
structure S66 where
  f0 : Int
  f1 : ByteArray
def z66 : S66 := ⟨(0 : Int), (⟨#[]⟩ : ByteArray)⟩
def k66 : Kd S66 := Kd.iso (Kd.pair (Kd.int .i64) Kd.string) (fun x : S66 => (x.f0, x.f1))
theorem k66_open {w : World} {x : S66} {cs : List Value} (h : k66.K w x cs) : cs = [.int .i64 x.f0, .string x.f1] := by
  obtain ⟨_, _, rfl, rfl, rfl⟩ := h
  exact rfl
theorem k66_mkM (w : World) (base : Nat) (ok : Nat → Prop) (x : S66)  : k66.M w base ok x [.int .i64 x.f0, .string x.f1] := ⟨[.int .i64 x.f0], [.string x.f1], rfl, rfl, rfl⟩
def rd_T66 (xs : List S66) (i : Int) : S66 := xs.getD i.toNat z66
theorem at_T66 {w : World} {A : Option Addr} {n : Nat} {xs : List S66} (h : Kd.C k66 w A n xs) (i : Int) (h0 : 0 ≤ i) (h1 : i < n) : ∃ ad , A = some ad ∧ w.cell? (ad.add (i.toNat * 2)) = some (.int .i64 (rd_T66 xs i).f0) ∧ w.cell? ⟨(ad.add (i.toNat * 2)).block, (ad.add (i.toNat * 2)).off + 1, none⟩ = some (.string (rd_T66 xs i).f1) := by
  obtain ⟨ad, c, e, _, hK, hc0⟩ := Kd.C_get h z66 i h0 h1
  have hc : ∀ j u, c[j]? = some u → w.cell? (ad.add (i.toNat * 2 + j)) = some u := hc0
  obtain rfl := k66_open hK
  exact ⟨ad, e, hc 0 _ rfl, by rw [← add_field _ _ 1 (by omega)]; exact hc 1 _ rfl⟩
structure S28 where
  f0 : ByteArray
  f1 : (List ByteArray)
  f2 : ByteArray
  f3 : ByteArray
  f4 : (List ByteArray)
  f5 : (List S44)
  f6 : (List ByteArray)
  f7 : ByteArray
end Go.Proofs.Ytljadeeoaoiilaa.P
