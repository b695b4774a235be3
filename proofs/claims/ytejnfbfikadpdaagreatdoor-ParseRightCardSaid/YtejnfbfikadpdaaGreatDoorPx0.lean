-- Written for this claim by the session's own run of the print, functions proved by hand put in.
import Derived.Test.YtejnfbfikadpdaaGreatDoorHand1
import Derived.Lib.ConvBytes
import Derived.Laws.IdiomStrings
import Derived.Test.YtejnfbfikadpdaaGreatDoorWWords
import Derived.Test.YtejnfbfikadpdaaGreatDoorWTab
import Derived.Test.YtejnfbfikadpdaaGreatDoorProg
import Derived.Below
import Derived.Deep.Draws
import Derived.Deep.AppendLies
import Derived.Maps.AppendAt
import Derived.OwnWalk
import Derived.Laws.BytesArg
import Derived.Laws.MakeOwn
import Derived.Laws.OwnMore
import Derived.Deep.OwnRows
import Derived.Tactics
import Derived.Laws.Slices
import Derived.WalkKit
import Derived.KernelRfl
import Derived.RowKit3
import Derived.Deep.LoopGhost
import Derived.Deep.QuietTactic
import Derived.BigQuiet
import Derived.WideLaws
import Derived.Deep.DeepCutAuto
import Derived.Deep.CutBlock
import Derived.Deep.RegionHeld3
import Derived.Laws.Rows
import Derived.Lib.AppendStr
import Derived.ArgAppend
import Derived.Laws.IdiomCopy
import Derived.OrdersHeld
import Derived.Laws.BitsLemmas
import Derived.RowKit
import Derived.WalkMore
import Derived.Test.YtejnfbfikadpdaaGreatDoorHandErr
import Derived.RangeFuncWrites
import Derived.Lib.Hide
import Derived.Test.YtejnfbfikadpdaaGreatDoorWLast
import Derived.Test.YtejnfbfikadpdaaGreatDoorWApart
import Derived.Test.YtejnfbfikadpdaaGreatDoorWN
import Derived.Laws.StructEq
namespace Go.Proofs.YtejnfbfikadpdaaGreatDoor.P
open Go.RowKit Go.Shelf Go.Proofs.YtejnfbfikadpdaaGreatDoorW.PrintWords Go.Proofs.YtejnfbfikadpdaaGreatDoor
attribute [local go_sem] Oper.semAt_some
structure BRow (B : Nat) (l : List UInt8) (W : World) : Prop where
  lt : B < W.heap.size
  cell : ∀ (j : Nat) (c : UInt8), l[j]? = some c → W.cell? ⟨B, j, none⟩ = some (.int .u8 c.toNat)
  frozen : ∀ j, j < l.length → W.frozen? ⟨B, j, none⟩ = false
theorem BRow.below {B : Nat} {l : List UInt8} {W W' : World} (h : BRow B l W) (hb : Below W.heap.size W W') : BRow B l W' :=
  ⟨Nat.lt_of_lt_of_le h.lt hb.size, fun j c hj => (hb.cell (p := ⟨B, j, none⟩) h.lt).trans (h.cell j c hj), fun j hj => (hb.frozen (p := ⟨B, j, none⟩) h.lt).trans (h.frozen j hj)⟩
theorem BRow.new (w : World) (e : TypeId) (s : ByteArray) : BRow w.heap.size (Iso.bl s) (Lib.bytesWorld w e s) := by
  refine ⟨by rw [Lib.bytesWorld_size]; omega, fun j c hj => ?_, fun j hj => ?_⟩
  · have hl := (List.getElem?_eq_some_iff.1 hj).1
    rw [Iso.bl_len] at hl
    rw [Lib.bytesWorld_cell w e s j hl]
    congr 2
    have : s.data.toList.getD j 0 = c := by rw [List.getD_eq_getElem?_getD]; unfold Iso.bl at hj; rw [hj]; rfl
    rw [this]
  · have hj' : j < s.size := hj
    unfold World.frozen?
    rw [Lib.bytesWorld_at_new]
    have : (Lib.bytesCells w e s).size ≥ s.size := by unfold Lib.bytesCells; rw [Array.size_append, Array.size_map]; show s.size ≤ s.data.size + _; have : s.data.size = s.size := rfl; omega
    simp; omega
theorem BRow.set {B : Nat} {l : List UInt8} {W : World} (h : BRow B l W) (i : Nat) (hi : i < l.length) (c : UInt8) : BRow B (l.set i c) (W.setCell ⟨B, i, none⟩ (.int .u8 c.toNat)) := by
  refine ⟨by simpa [World.setCell] using h.lt, fun j d hj => ?_, fun j hj => ?_⟩
  · by_cases e : j = i
    · subst e
      rw [List.getElem?_set_self hi] at hj
      rw [World.cell?_setCell_same _ _ _ (h.cell j _ (List.getElem?_eq_getElem hi)), Option.some.inj hj]
    · rw [List.getElem?_set_ne (fun x => e x.symm)] at hj
      rw [World.cell?_setCell_other _ _ _ _ (fun x => e (congrArg Addr.off x).symm)]
      exact h.cell j d hj
  · rw [World.frozen?_setCell]
    exact h.frozen j (by rwa [List.length_set] at hj)
set_option maxRecDepth 100000 in
set_option maxHeartbeats 4000000 in
theorem each_calls (g : Nat) (q : Nat → UInt8 → UInt8) (hq : ∀ (i : Nat) (c : UInt8) (W : World), Calls Tryz.prog g #[.int .i64 i, .int .u8 c.toNat] W fun e w' => e = .returned (.int .u8 (q i c).toNat) ∧ Below W.heap.size W w')
    (eg : ∀ args w, (callFunc g args).run Tryz.prog w = .ok (.enter g args) w) (a0 : ByteArray) (hs : a0.size ≤ 140737488355328) (w : World) :
    Calls Tryz.prog 71 #[.string a0, .func (.func g) #[] #[]] w fun e w' => e = .returned (.string (Iso.mk ((Iso.bl a0).mapIdx q))) ∧ Below w.heap.size w w' := by
  have kb := fun W => print_bytes (P := Tryz.prog) 9 79 5 Tryz.underlying9 Tryz.underlying79 Tryz.underlying5 a0 W
  have HQ := Lib.hid hq
  clear hq
  go_enter Tryz.func71, Tryz.ntmps71
  go_wp2
  have r1 := BRow.new w 5 a0
  have b1 : Below w.heap.size w (Lib.bytesWorld w 5 a0) := bytes_below (Below.refl _ w) (Nat.le_refl _) 5 a0
  generalize Lib.bytesWorld w 5 a0 = w1 at r1 b1
  have n1 : ((Iso.bl a0).mapIdx q).length = a0.size := by rw [List.length_mapIdx, Iso.bl_len]
  clear kb
  go_loopg [12] a0.size (fun kq v12 w' => ∃ i : Nat, v12 = .int .i64 i ∧ kq + i = a0.size ∧ Hid (BRow w.heap.size (((Iso.bl a0).mapIdx q).take i ++ (Iso.bl a0).drop i) w') ∧ Hid (Below w.heap.size w w'))
  case atStart => exact ⟨0, rfl, rfl, Lib.hid (by simpa using r1), Lib.hid b1⟩
  case round =>
    obtain ⟨i, rfl, hk, R, HB⟩ := hrel
    have hlen : (((Iso.bl a0).mapIdx q).take i ++ (Iso.bl a0).drop i).length = a0.size := by rw [List.length_append, List.length_take, List.length_drop, n1, Iso.bl_len]; omega
    cases gk with
    | zero =>
      have c1 : decide ((i : Int) < (a0.size : Int)) = false := decide_eq_false (by omega)
      have hi : i = a0.size := by omega
      have hl : ((Iso.bl a0).mapIdx q).take i ++ (Iso.bl a0).drop i = (Iso.bl a0).mapIdx q := by
        rw [List.take_of_length_le (by omega), List.drop_eq_nil_of_le (by rw [Iso.bl_len]; omega), List.append_nil]
      rw [hl] at R
      have hb := run_convert_bytes_back (P := Tryz.prog) wr 79 9 5 ⟨w.heap.size, 0, none⟩ (grownCap w a0.size 0 5) ((Iso.bl a0).mapIdx q) Tryz.underlying79 Tryz.underlying5 Tryz.underlying9 (fun j hj => by
        rw [add_plain]; exact R.out.cell j _ (List.getElem?_eq_getElem hj))
      rw [n1] at hb
      go_wp2
      go_ret
      exact ⟨rfl, HB.out⟩
    | succ k1 =>
      have c1 : decide ((i : Int) < (a0.size : Int)) = true := decide_eq_true (by omega)
      have hi : i < (Iso.bl a0).length := by rw [Iso.bl_len]; omega
      have hx := R.out.cell i ((Iso.bl a0)[i]) (by rw [List.getElem?_append_right (by rw [List.length_take]; omega), List.length_take, n1, List.getElem?_drop]; rw [show i + (i - min i a0.size) = i from by omega]; exact List.getElem?_eq_getElem hi)
      have hf := R.out.frozen i (by omega)
      have hn : i < (((Iso.bl a0).mapIdx q).take i ++ (Iso.bl a0).drop i).length := by omega
      go_wp2_with (refine (HQ.out _ _ _).mono ?_; rintro e w' ⟨rfl, hb⟩; have hx2 := (hb.cell (p := ⟨w.heap.size, i, none⟩) R.out.lt).trans hx; have hf2 := (hb.frozen (p := ⟨w.heap.size, i, none⟩) R.out.lt).trans hf; have R2 := Lib.hid (R.out.below hb); have HB2 := Lib.hid (below_then HB.out HB.out.size hb))
      have hw : wrap64 ((i : Int) + 1) = ((i + 1 : Nat) : Int) := by unfold wrap64; omega
      go_roundg k1
      case measure => omega
      case rel =>
        refine ⟨i + 1, rfl, by omega, Lib.hid ?_, Lib.hid (HB2.out.setCell (p := ⟨w.heap.size, i, none⟩) (Nat.le_refl _) _)⟩
        have := R2.out.set i hn (q i (Iso.bl a0)[i])
        have e : (((Iso.bl a0).mapIdx q).take i ++ (Iso.bl a0).drop i).set i (q i (Iso.bl a0)[i]) = ((Iso.bl a0).mapIdx q).take (i + 1) ++ (Iso.bl a0).drop (i + 1) := by
          have h1 : (((Iso.bl a0).mapIdx q).take i).length = i := by rw [List.length_take]; omega
          rw [List.set_append_right _ _ (by omega), h1, Nat.sub_self, List.drop_eq_getElem_cons hi, List.set_cons_zero, List.take_add_one, List.getElem?_mapIdx, List.getElem?_eq_getElem hi]
          simp
          rfl
        rw [e] at this
        exact this
end Go.Proofs.YtejnfbfikadpdaaGreatDoor.P
namespace Go.Proofs.YtejnfbfikadpdaaGreatDoorW.PrintWords
theorem Reps.one {α : Type} {R : α → List Value → Prop} {ps : List α} {cs : List Value} {p : α} {v : Value} (hp : R p [v]) (h : Reps R 1 ps cs) : Reps R 1 (p :: ps) (v :: cs) := by
  refine ⟨by simp [h.1], fun j q hq => ?_⟩
  cases j with
  | zero =>
    simp only [List.getElem?_cons_zero, Option.some.injEq] at hq
    subst hq
    simpa using hp
  | succ j =>
    simp only [List.getElem?_cons_succ] at hq
    have h1 := h.2 j q hq
    simpa [Nat.mul_one] using h1
theorem Reps.front {α : Type} {R : α → List Value → Prop} {size : Nat} {ps : List α} {cs c all : List Value} {p : α} (hp : R p c) (hc : c.length = size) (h : Reps R size ps cs) (ha : c ++ cs = all) : Reps R size (p :: ps) all := by
  subst ha
  refine ⟨by rw [List.length_append, hc, h.1, List.length_cons, Nat.succ_mul, Nat.add_comm], fun j q hq => ?_⟩
  cases j with
  | zero =>
    simp only [List.getElem?_cons_zero, Option.some.injEq] at hq
    subst hq
    rw [Nat.zero_mul, List.drop_zero, List.take_append_of_le_length (by omega), List.take_of_length_le (by omega)]
    exact hp
  | succ j =>
    simp only [List.getElem?_cons_succ] at hq
    have h1 := h.2 j q hq
    rw [Nat.succ_mul, List.drop_append, List.drop_of_length_le (by rw [hc]; exact Nat.le_add_left _ _), List.nil_append, hc, Nat.add_sub_cancel]
    exact h1
theorem Reps.c2 {α : Type} {R : α → List Value → Prop} {ps : List α} {cs : List Value} {p : α} {va vb : Value} (hp : R p [va, vb]) (h : Reps R 2 ps cs) : Reps R 2 (p :: ps) (va :: vb :: cs) := Reps.front hp rfl h rfl
theorem Reps.c3 {α : Type} {R : α → List Value → Prop} {ps : List α} {cs : List Value} {p : α} {va vb vc : Value} (hp : R p [va, vb, vc]) (h : Reps R 3 ps cs) : Reps R 3 (p :: ps) (va :: vb :: vc :: cs) := Reps.front hp rfl h rfl
theorem Reps.c4 {α : Type} {R : α → List Value → Prop} {ps : List α} {cs : List Value} {p : α} {va vb vc vd : Value} (hp : R p [va, vb, vc, vd]) (h : Reps R 4 ps cs) : Reps R 4 (p :: ps) (va :: vb :: vc :: vd :: cs) := Reps.front hp rfl h rfl
theorem Reps.c5 {α : Type} {R : α → List Value → Prop} {ps : List α} {cs : List Value} {p : α} {va vb vc vd ve : Value} (hp : R p [va, vb, vc, vd, ve]) (h : Reps R 5 ps cs) : Reps R 5 (p :: ps) (va :: vb :: vc :: vd :: ve :: cs) := Reps.front hp rfl h rfl
theorem Reps.c6 {α : Type} {R : α → List Value → Prop} {ps : List α} {cs : List Value} {p : α} {va vb vc vd ve vf : Value} (hp : R p [va, vb, vc, vd, ve, vf]) (h : Reps R 6 ps cs) : Reps R 6 (p :: ps) (va :: vb :: vc :: vd :: ve :: vf :: cs) := Reps.front hp rfl h rfl
theorem Reps.c7 {α : Type} {R : α → List Value → Prop} {ps : List α} {cs : List Value} {p : α} {va vb vc vd ve vf vg : Value} (hp : R p [va, vb, vc, vd, ve, vf, vg]) (h : Reps R 7 ps cs) : Reps R 7 (p :: ps) (va :: vb :: vc :: vd :: ve :: vf :: vg :: cs) := Reps.front hp rfl h rfl
theorem Reps.c8 {α : Type} {R : α → List Value → Prop} {ps : List α} {cs : List Value} {p : α} {va vb vc vd ve vf vg vh : Value} (hp : R p [va, vb, vc, vd, ve, vf, vg, vh]) (h : Reps R 8 ps cs) : Reps R 8 (p :: ps) (va :: vb :: vc :: vd :: ve :: vf :: vg :: vh :: cs) := Reps.front hp rfl h rfl
theorem Reps.c9 {α : Type} {R : α → List Value → Prop} {ps : List α} {cs : List Value} {p : α} {va vb vc vd ve vf vg vh vi : Value} (hp : R p [va, vb, vc, vd, ve, vf, vg, vh, vi]) (h : Reps R 9 ps cs) : Reps R 9 (p :: ps) (va :: vb :: vc :: vd :: ve :: vf :: vg :: vh :: vi :: cs) := Reps.front hp rfl h rfl
theorem Reps.c10 {α : Type} {R : α → List Value → Prop} {ps : List α} {cs : List Value} {p : α} {va vb vc vd ve vf vg vh vi vj : Value} (hp : R p [va, vb, vc, vd, ve, vf, vg, vh, vi, vj]) (h : Reps R 10 ps cs) : Reps R 10 (p :: ps) (va :: vb :: vc :: vd :: ve :: vf :: vg :: vh :: vi :: vj :: cs) := Reps.front hp rfl h rfl
end Go.Proofs.YtejnfbfikadpdaaGreatDoorW.PrintWords
namespace Go.Proofs.YtejnfbfikadpdaaGreatDoorW.PrintWords
open Go.RowKit
section
variable {P : Program} {ops : Array Oper} {rest : List Oper} {o : Oper} {a : Act} {Q : Exit → Act → World → Prop} {W : World}
theorem gate_guard (hw : Region.wanted o (yielded ops a.tmps) = true) (h : wpList P ops Q ({ o with guard := none } :: rest) a W) : wpList P ops Q (o :: rest) a W := by
  have h1 : Region.wanted { o with guard := none } (yielded ops a.tmps) = true := rfl
  unfold wpList at h ⊢
  rw [if_pos h1] at h
  rw [if_pos hw]
  exact h
end
end Go.Proofs.YtejnfbfikadpdaaGreatDoorW.PrintWords
namespace Go.Proofs.YtejnfbfikadpdaaGreatDoorW.PrintLast
def up (b : Nat → Bool) (i : Nat) : Nat → Bool := fun j => if j = i then true else b j
end Go.Proofs.YtejnfbfikadpdaaGreatDoorW.PrintLast
namespace Go.Proofs.YtejnfbfikadpdaaGreatDoor.P
open Go.RowKit Go.Proofs.YtejnfbfikadpdaaGreatDoorW.PrintWords Go.Proofs.YtejnfbfikadpdaaGreatDoorW.PrintLast Go.Proofs.YtejnfbfikadpdaaGreatDoorW.PrintMore
attribute [local go_sem] max2_int min2_int max_two min_two max_three min_three max_four min_four   -- for this text's walks alone
set_option linter.unusedVariables false
set_option linter.unusedSimpArgs false
def errW : Option Int → Value
  | none => .nilIface
  | some c => .iface 49 (.int .i64 c)
theorem errW_none : errW none = .nilIface := rfl
theorem errW_some (c : Int) : errW (some c) = .iface 49 (.int .i64 c) := rfl
theorem info5 : (Tryz.prog.info? 5).map (fun i => (i.zero, i.size, i.bytes)) = some (some (.int .u8 0), 1, 1) := by kernel_rfl
theorem info9 : (Tryz.prog.info? 9).map (fun i => (i.zero, i.size, i.bytes)) = some (some (.string ⟨#[]⟩), 1, 16) := by kernel_rfl
theorem info47 : (Tryz.prog.info? 47).map (fun i => (i.zero, i.size, i.bytes)) = some (some (.agg #[(.string ⟨#[]⟩), (.slice none 0 0)]), 2, 40) := by kernel_rfl
theorem info87 : (Tryz.prog.info? 87).map (fun i => (i.zero, i.size, i.bytes)) = some (some (.agg #[(.int .i64 0), (.string ⟨#[]⟩)]), 2, 24) := by kernel_rfl
structure S75 where
  f0 : Int
  f1 : ByteArray
def z75 : S75 := ⟨(0 : Int), (⟨#[]⟩ : ByteArray)⟩
def k75 : Kd S75 := Kd.iso (Kd.pair (Kd.int .i64) Kd.string) (fun x : S75 => (x.f0, x.f1))
theorem k75_open {w : World} {x : S75} {cs : List Value} (h : k75.K w x cs) : cs = [.int .i64 x.f0, .string x.f1] := by
  obtain ⟨_, _, rfl, rfl, rfl⟩ := h
  exact rfl
theorem k75_mkM (w : World) (base : Nat) (ok : Nat → Prop) (x : S75)  : k75.M w base ok x [.int .i64 x.f0, .string x.f1] := ⟨[.int .i64 x.f0], [.string x.f1], rfl, rfl, rfl⟩
def rd_T75 (xs : List S75) (i : Int) : S75 := xs.getD i.toNat z75
theorem at_T75 {w : World} {A : Option Addr} {n : Nat} {xs : List S75} (h : Kd.C k75 w A n xs) (i : Int) (h0 : 0 ≤ i) (h1 : i < n) : ∃ ad , A = some ad ∧ w.cell? (ad.add (i.toNat * 2)) = some (.int .i64 (rd_T75 xs i).f0) ∧ w.cell? ⟨(ad.add (i.toNat * 2)).block, (ad.add (i.toNat * 2)).off + 1, none⟩ = some (.string (rd_T75 xs i).f1) := by
  obtain ⟨ad, c, e, _, hK, hc0⟩ := Kd.C_get h z75 i h0 h1
  have hc : ∀ j u, c[j]? = some u → w.cell? (ad.add (i.toNat * 2 + j)) = some u := hc0
  obtain rfl := k75_open hK
  exact ⟨ad, e, hc 0 _ rfl, by rw [← add_field _ _ 1 (by omega)]; exact hc 1 _ rfl⟩
structure S47 where
  f0 : ByteArray
  f1 : (List ByteArray)
def z47 : S47 := ⟨(⟨#[]⟩ : ByteArray), ([] : List ByteArray)⟩
def k47 : Kd S47 := Kd.iso (Kd.pair Kd.string (Kd.slice 9 Kd.string)) (fun x : S47 => (x.f0, x.f1))
theorem k47_open {w : World} {x : S47} {cs : List Value} (h : k47.K w x cs) : ∃ A1 c1, cs = [.string x.f0, .slice A1 x.f1.length c1] ∧ x.f1.length ≤ c1 ∧ Kd.string.C w A1 x.f1.length x.f1 := by
  obtain ⟨_, _, rfl, rfl, ⟨A1, c1, rfl, l1, g1⟩⟩ := h
  exact ⟨A1, c1, rfl, l1, g1⟩
theorem k47_mkM (w : World) (base : Nat) (ok : Nat → Prop) (x : S47) {v1 : Value} (g1 : Kd.string.R 9 w base ok v1 x.f1) : k47.M w base ok x [.string x.f0, v1] := ⟨[.string x.f0], [v1], rfl, rfl, ⟨v1, rfl, g1⟩⟩
def rd_T47 (xs : List S47) (i : Int) : S47 := xs.getD i.toNat z47
theorem at_T47 {w : World} {A : Option Addr} {n : Nat} {xs : List S47} (h : Kd.C k47 w A n xs) (i : Int) (h0 : 0 ≤ i) (h1 : i < n) : ∃ ad A1 c1, A = some ad ∧ w.cell? (ad.add (i.toNat * 2)) = some (.string (rd_T47 xs i).f0) ∧ w.cell? ⟨(ad.add (i.toNat * 2)).block, (ad.add (i.toNat * 2)).off + 1, none⟩ = some (.slice A1 (rd_T47 xs i).f1.length c1) ∧ (rd_T47 xs i).f1.length ≤ c1 ∧ Kd.string.C w A1 (rd_T47 xs i).f1.length (rd_T47 xs i).f1 := by
  obtain ⟨ad, c, e, _, hK, hc0⟩ := Kd.C_get h z47 i h0 h1
  have hc : ∀ j u, c[j]? = some u → w.cell? (ad.add (i.toNat * 2 + j)) = some u := hc0
  obtain ⟨A1, c1, rfl, l1, g1⟩ := k47_open hK
  exact ⟨ad, A1, c1, e, hc 0 _ rfl, by rw [← add_field _ _ 1 (by omega)]; exact hc 1 _ rfl, l1, g1⟩
structure S29 where
  f0 : ByteArray
  f1 : (List ByteArray)
  f2 : ByteArray
  f3 : ByteArray
  f4 : (List ByteArray)
  f5 : (List S47)
  f6 : (List ByteArray)
  f7 : ByteArray
structure S87 where
  f0 : Int
  f1 : ByteArray
def z87 : S87 := ⟨(0 : Int), (⟨#[]⟩ : ByteArray)⟩
def k87 : Kd S87 := Kd.iso (Kd.pair (Kd.int .i64) Kd.string) (fun x : S87 => (x.f0, x.f1))
theorem k87_open {w : World} {x : S87} {cs : List Value} (h : k87.K w x cs) : cs = [.int .i64 x.f0, .string x.f1] := by
  obtain ⟨_, _, rfl, rfl, rfl⟩ := h
  exact rfl
theorem k87_mkM (w : World) (base : Nat) (ok : Nat → Prop) (x : S87)  : k87.M w base ok x [.int .i64 x.f0, .string x.f1] := ⟨[.int .i64 x.f0], [.string x.f1], rfl, rfl, rfl⟩
def rd_T87 (xs : List S87) (i : Int) : S87 := xs.getD i.toNat z87
theorem at_T87 {w : World} {A : Option Addr} {n : Nat} {xs : List S87} (h : Kd.C k87 w A n xs) (i : Int) (h0 : 0 ≤ i) (h1 : i < n) : ∃ ad , A = some ad ∧ w.cell? (ad.add (i.toNat * 2)) = some (.int .i64 (rd_T87 xs i).f0) ∧ w.cell? ⟨(ad.add (i.toNat * 2)).block, (ad.add (i.toNat * 2)).off + 1, none⟩ = some (.string (rd_T87 xs i).f1) := by
  obtain ⟨ad, c, e, _, hK, hc0⟩ := Kd.C_get h z87 i h0 h1
  have hc : ∀ j u, c[j]? = some u → w.cell? (ad.add (i.toNat * 2 + j)) = some u := hc0
  obtain rfl := k87_open hK
  exact ⟨ad, e, hc 0 _ rfl, by rw [← add_field _ _ 1 (by omega)]; exact hc 1 _ rfl⟩
structure S137 where
  f0 : (List S87)
  f1 : Int
  f2 : Int
structure S97 where
  f0 : S29
  f1 : Int
  f2 : Int
  f3 : ByteArray
end Go.Proofs.YtejnfbfikadpdaaGreatDoor.P
