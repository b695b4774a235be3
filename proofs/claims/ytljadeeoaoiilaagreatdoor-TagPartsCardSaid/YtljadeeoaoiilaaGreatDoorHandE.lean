/- A contract proved by hand: ascii.each at any change of bytes. Condition: the text is shorter than 2^47 bytes. -/
import Derived.Test.YtljadeeoaoiilaaGreatDoorHand1
import Derived.Lib.ConvBytes
import Derived.Laws.IdiomStrings
namespace Go.Proofs.YtljadeeoaoiilaaGreatDoor.P
open Go.RowKit Go.Shelf Go.Proofs.YtljadeeoaoiilaaGreatDoorW.PrintWords Go.Proofs.YtljadeeoaoiilaaGreatDoor
attribute [local go_sem] Oper.semAt_some
structure BRow (B : Nat) (l : List UInt8) (W : World) : Prop where
  lt : B < W.heap.size
  cell : ∀ (j : Nat) (c : UInt8), l[j]? = some c → W.cell? ⟨B, j, none⟩ = some (.int .u8 c.toNat)
  frozen : ∀ j, j < l.length → W.frozen? ⟨B, j, none⟩ = false
theorem BRow.below {B : Nat} {l : List UInt8} {W W' : World} (h : BRow B l W) (hb : Below W.heap.size W W') : BRow B l W' :=
  ⟨Nat.lt_of_lt_of_le h.lt hb.size, fun j c hj => (hb.cell (p := ⟨B, j, none⟩) h.lt).trans (h.cell j c hj), fun j hj => (hb.frozen (p := ⟨B, j, none⟩) h.lt).trans (h.frozen j hj)⟩
theorem BRow.new (w : World) (e : TypeId) (s : ByteArray) : BRow w.heap.size (Iso.bl s) (Lib.bytesWorld w e s) := by
  refine ⟨by rw [Lib.bytesWorld_size]; omega, fun j c hj => ?_, fun j hj => ?_⟩
  · have hl := (List.getElem?_eq_some_iff.1 hj).1
    rw [Iso.bl_len] at hl
    rw [Lib.bytesWorld_cell w e s j hl]
    congr 2
    have : s.data.toList.getD j 0 = c := by rw [List.getD_eq_getElem?_getD]; unfold Iso.bl at hj; rw [hj]; rfl
    rw [this]
  · have hj' : j < s.size := hj
    unfold World.frozen?
    rw [Lib.bytesWorld_at_new]
    have : (Lib.bytesCells w e s).size ≥ s.size := by unfold Lib.bytesCells; rw [Array.size_append, Array.size_map]; show s.size ≤ s.data.size + _; have : s.data.size = s.size := rfl; omega
    simp; omega
theorem BRow.set {B : Nat} {l : List UInt8} {W : World} (h : BRow B l W) (i : Nat) (hi : i < l.length) (c : UInt8) : BRow B (l.set i c) (W.setCell ⟨B, i, none⟩ (.int .u8 c.toNat)) := by
  refine ⟨by simpa [World.setCell] using h.lt, fun j d hj => ?_, fun j hj => ?_⟩
  · by_cases e : j = i
    · subst e
      rw [List.getElem?_set_self hi] at hj
      rw [World.cell?_setCell_same _ _ _ (h.cell j _ (List.getElem?_eq_getElem hi)), Option.some.inj hj]
    · rw [List.getElem?_set_ne (fun x => e x.symm)] at hj
      rw [World.cell?_setCell_other _ _ _ _ (fun x => e (congrArg Addr.off x).symm)]
      exact h.cell j d hj
  · rw [World.frozen?_setCell]
    exact h.frozen j (by rwa [List.length_set] at hj)
set_option maxRecDepth 100000 in
set_option maxHeartbeats 4000000 in
theorem each_calls (g : Nat) (q : Nat → UInt8 → UInt8) (hq : ∀ (i : Nat) (c : UInt8) (W : World), Calls Tryz.prog g #[.int .i64 i, .int .u8 c.toNat] W fun e w' => e = .returned (.int .u8 (q i c).toNat) ∧ Below W.heap.size W w')
    (eg : ∀ args w, (callFunc g args).run Tryz.prog w = .ok (.enter g args) w) (a0 : ByteArray) (hs : a0.size ≤ 140737488355328) (w : World) :
    Calls Tryz.prog 89 #[.string a0, .func (.func g) #[] #[]] w fun e w' => e = .returned (.string (Iso.mk ((Iso.bl a0).mapIdx q))) ∧ Below w.heap.size w w' := by
  have kb := fun W => print_bytes (P := Tryz.prog) 9 84 5 Tryz.underlying9 Tryz.underlying84 Tryz.underlying5 a0 W
  have HQ := Lib.hid hq
  clear hq
  go_enter Tryz.func89, Tryz.ntmps89
  go_wp2
  have r1 := BRow.new w 5 a0
  have b1 : Below w.heap.size w (Lib.bytesWorld w 5 a0) := bytes_below (Below.refl _ w) (Nat.le_refl _) 5 a0
  generalize Lib.bytesWorld w 5 a0 = w1 at r1 b1
  have n1 : ((Iso.bl a0).mapIdx q).length = a0.size := by rw [List.length_mapIdx, Iso.bl_len]
  clear kb
  go_loopg [12] a0.size (fun kq v12 w' => ∃ i : Nat, v12 = .int .i64 i ∧ kq + i = a0.size ∧ Hid (BRow w.heap.size (((Iso.bl a0).mapIdx q).take i ++ (Iso.bl a0).drop i) w') ∧ Hid (Below w.heap.size w w'))
  case atStart => exact ⟨0, rfl, rfl, Lib.hid (by simpa using r1), Lib.hid b1⟩
  case round =>
    obtain ⟨i, rfl, hk, R, HB⟩ := hrel
    have hlen : (((Iso.bl a0).mapIdx q).take i ++ (Iso.bl a0).drop i).length = a0.size := by rw [List.length_append, List.length_take, List.length_drop, n1, Iso.bl_len]; omega
    cases gk with
    | zero =>
      have c1 : decide ((i : Int) < (a0.size : Int)) = false := decide_eq_false (by omega)
      have hi : i = a0.size := by omega
      have hl : ((Iso.bl a0).mapIdx q).take i ++ (Iso.bl a0).drop i = (Iso.bl a0).mapIdx q := by
        rw [List.take_of_length_le (by omega), List.drop_eq_nil_of_le (by rw [Iso.bl_len]; omega), List.append_nil]
      rw [hl] at R
      have hb := run_convert_bytes_back (P := Tryz.prog) wr 84 9 5 ⟨w.heap.size, 0, none⟩ (grownCap w a0.size 0 5) ((Iso.bl a0).mapIdx q) Tryz.underlying84 Tryz.underlying5 Tryz.underlying9 (fun j hj => by
        rw [add_plain]; exact R.out.cell j _ (List.getElem?_eq_getElem hj))
      rw [n1] at hb
      go_wp2
      go_ret
      exact ⟨rfl, HB.out⟩
    | succ k1 =>
      have c1 : decide ((i : Int) < (a0.size : Int)) = true := decide_eq_true (by omega)
      have hi : i < (Iso.bl a0).length := by rw [Iso.bl_len]; omega
      have hx := R.out.cell i ((Iso.bl a0)[i]) (by rw [List.getElem?_append_right (by rw [List.length_take]; omega), List.length_take, n1, List.getElem?_drop]; rw [show i + (i - min i a0.size) = i from by omega]; exact List.getElem?_eq_getElem hi)
      have hf := R.out.frozen i (by omega)
      have hn : i < (((Iso.bl a0).mapIdx q).take i ++ (Iso.bl a0).drop i).length := by omega
      go_wp2_with (refine (HQ.out _ _ _).mono ?_; rintro e w' ⟨rfl, hb⟩; have hx2 := (hb.cell (p := ⟨w.heap.size, i, none⟩) R.out.lt).trans hx; have hf2 := (hb.frozen (p := ⟨w.heap.size, i, none⟩) R.out.lt).trans hf; have R2 := Lib.hid (R.out.below hb); have HB2 := Lib.hid (below_then HB.out HB.out.size hb))
      have hw : wrap64 ((i : Int) + 1) = ((i + 1 : Nat) : Int) := by unfold wrap64; omega
      go_roundg k1
      case measure => omega
      case rel =>
        refine ⟨i + 1, rfl, by omega, Lib.hid ?_, Lib.hid (HB2.out.setCell (p := ⟨w.heap.size, i, none⟩) (Nat.le_refl _) _)⟩
        have := R2.out.set i hn (q i (Iso.bl a0)[i])
        have e : (((Iso.bl a0).mapIdx q).take i ++ (Iso.bl a0).drop i).set i (q i (Iso.bl a0)[i]) = ((Iso.bl a0).mapIdx q).take (i + 1) ++ (Iso.bl a0).drop (i + 1) := by
          have h1 : (((Iso.bl a0).mapIdx q).take i).length = i := by rw [List.length_take]; omega
          rw [List.set_append_right _ _ (by omega), h1, Nat.sub_self, List.drop_eq_getElem_cons hi, List.set_cons_zero, List.take_add_one, List.getElem?_mapIdx, List.getElem?_eq_getElem hi]
          simp
          rfl
        rw [e] at this
        exact this
end Go.Proofs.YtljadeeoaoiilaaGreatDoor.P
