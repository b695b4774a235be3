/- What this chapter's laws call, each with its plain answer. -/
import Derived.Test.YtejnfbfikadpdaaGreatDoorHandAwake
import Derived.Test.YtejnfbfikadpdaaGreatDoorPureBase
import Derived.Test.YtejnfbfikadpdaaGreatDoorPx10
import Derived.Test.YtejnfbfikadpdaaGreatDoorPx15
import Derived.Test.YtejnfbfikadpdaaGreatDoorPx8
import Derived.Test.YtejnfbfikadpdaaGreatDoorPx6
import Derived.Test.YtejnfbfikadpdaaGreatDoorPx6
namespace Go.Proofs.YtejnfbfikadpdaaGreatDoor.P
open Go.RowKit Go.Shelf Go.Proofs.YtejnfbfikadpdaaGreatDoorW.PrintWords Go.Proofs.YtejnfbfikadpdaaGreatDoorW.PrintLast Go.Proofs.YtejnfbfikadpdaaGreatDoorW.PrintMore Go.Proofs.YtejnfbfikadpdaaGreatDoor.Iso
set_option linter.unusedVariables false
set_option linter.unusedSimpArgs false
theorem blk_alloc1 {w : World} {g : Nat} {o : Obj} (h : w.heap[g]? = some o) (q : Obj) : (w.alloc q).heap[g]? = some o := blk_on h (below_alloc (Below.refl _ _) _)
theorem cells8p {w : World} {g : Nat} {t : TypeId} {x0 x1 x2 x3 x4 x5 x6 x7 : Value} (h : w.heap[g]? = some (.cells #[x0, x1, x2, x3, x4, x5, x6, x7] t (0, 0))) : w.cell? ⟨g, 0, none⟩ = some x0 ∧ w.cell? ⟨g, 1, none⟩ = some x1 ∧ w.cell? ⟨g, 2, none⟩ = some x2 ∧ w.cell? ⟨g, 3, none⟩ = some x3 ∧ w.cell? ⟨g, 4, none⟩ = some x4 ∧ w.cell? ⟨g, 5, none⟩ = some x5 ∧ w.cell? ⟨g, 6, none⟩ = some x6 ∧ w.cell? ⟨g, 7, none⟩ = some x7 :=
  ⟨(blk_cell h 0).trans rfl, (blk_cell h 1).trans rfl, (blk_cell h 2).trans rfl, (blk_cell h 3).trans rfl, (blk_cell h 4).trans rfl, (blk_cell h 5).trans rfl, (blk_cell h 6).trans rfl, (blk_cell h 7).trans rfl⟩
theorem sameL_refl : ∀ xs : List S47, sameL xs xs = true
  | [] => rfl
  | x :: xs => by unfold sameL sameX; rw [sameL_refl xs, decide_eq_true rfl, decide_eq_true rfl]; rfl
theorem sameT_refl (T : TG) : sameT T T = true := by
  unfold sameT; rw [sameL_refl]; simp
def shortB (s : ByteArray) : ByteArray := if s.size > 80 then s.extract 0 80 else s
theorem shortB_size (s : ByteArray) : (shortB s).size ≤ 80 := by
  unfold shortB
  split
  · rw [ByteArray.size_extract]; omega
  · omega
theorem short_calls (s : ByteArray) (W : World) : Calls Tryz.prog 18 #[.string s] W fun e W' => e = .returned (.string (shortB s)) ∧ Below W.heap.size W W' := by
  refine (isoglosslaw07_short.calls s (shortB s) W ?_).mono fun e W' ⟨he, hd⟩ => ⟨he, hd.below⟩
  unfold isoglosslaw07_short.f shortB
  by_cases c : s.size > 80
  · rw [if_pos (by omega), if_pos (by decide), if_pos (by omega), if_pos c]
  · rw [if_neg (by omega), if_neg c]
theorem lower02_calls (s : ByteArray) (hs : s.size ≤ 140737488355328) (W : World) : Calls Tryz.prog 24 #[.string s] W fun e W' => e = .returned (.string (mk (low (bl s)))) ∧ Below W.heap.size W W' := by
  obtain ⟨k, hk⟩ := (ref_Lower_ev s hs).rounds
  exact isoglossref02_Lower.calls k s _ W hk
theorem upper02_calls (s : ByteArray) (hs : s.size ≤ 140737488355328) (W : World) : Calls Tryz.prog 14 #[.string s] W fun e W' => e = .returned (.string (mk (up (bl s)))) ∧ Below W.heap.size W W' := by
  obtain ⟨k, hk⟩ := (ref_Upper_ev s hs).rounds
  exact isoglossref02_Upper.calls k s _ W hk
abbrev IntsC (W : World) (A : Option Addr) (c : Nat) (l : List Int) : Prop := Kd.C (Kd.int .i64) W A l.length l ∧ l.length ≤ c
theorem IntsC.below {W W' : World} {A : Option Addr} {c : Nat} {l : List Int} (h : IntsC W A c l) (hb : Below W.heap.size W W') : IntsC W' A c l := ⟨Kd.C_below h.1 hb, h.2⟩
theorem made_calls (a0 a1 a2 a3 : Int) (l4 l5 l6 : List Int) (a7 : Int) : ∃ B : TG, BaseT B l6 ∧ ∀ (A4 : Option Addr) (c4 : Nat) (A5 : Option Addr) (c5 : Nat) (A6 : Option Addr) (c6 : Nat) (W : World), IntsC W A4 c4 l4 → IntsC W A5 c5 l5 → IntsC W A6 c6 l6 →
    Calls Tryz.prog 11 #[.agg #[.int .i64 a0, .int .i64 a1, .int .i64 a2, .int .i64 a3, .slice A4 l4.length c4, .slice A5 l5.length c5, .slice A6 l6.length c6, .int .i64 a7]] W fun e W' => ∃ A1 c1 A4 c4 A5 c5 A6 c6, e = .returned (.agg (tagCells (spoiltT B (oddN a7)) A1 c1 A4 c4 A5 c5 A6 c6)) ∧ RowsC W' (spoiltT B (oddN a7)) A1 c1 A4 c4 A5 c5 A6 c6 ∧ Below W.heap.size W W' := by
  obtain ⟨r, hr, B, hB, e⟩ := Made_told a0 a1 a2 a3 l4 l5 l6 a7
  subst e
  obtain ⟨k, hk⟩ := hr.rounds
  exact ⟨B, hB, fun A4 c4 A5 c5 A6 c6 W h4 h5 h6 => Made_tag k a0 a1 a2 a3 A4 c4 l4 A5 c5 l5 A6 c6 l6 a7 _ W h4 h5 h6 hk⟩
end Go.Proofs.YtejnfbfikadpdaaGreatDoor.P
