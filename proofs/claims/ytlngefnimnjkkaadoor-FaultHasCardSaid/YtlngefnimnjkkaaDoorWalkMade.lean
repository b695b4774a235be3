/- made, walked by hand: an error of a row of items. Condition: at most nine items. -/
import Derived.Test.YtlngefnimnjkkaaDoorWalkAwake
import Derived.Test.YtlngefnimnjkkaaDoorPx2
import Derived.Deep.RegionHeld3
namespace Go.Proofs.YtlngefnimnjkkaaDoor.P
open Go.RowKit Go.Shelf Go.Proofs.YtlngefnimnjkkaaDoorW.PrintWords
attribute [local go_sem] Oper.semAt_some
set_option linter.unusedVariables false
set_option linter.unusedSimpArgs false
set_option maxRecDepth 100000 in
set_option maxHeartbeats 8000000 in
theorem made_calls (A : Option Addr) (c : Nat) (l : List S43) (kd : Int) (w : World) (hr : Kd.C k43 w A l.length l) (hk : ¬ kd = 0) (hl : l.length ≤ 9) :
    Calls Tryd.prog 17 #[.agg #[.slice A l.length c, .int .i64 kd]] w fun e w' => ∃ v, ∃ x : E, e = .returned v ∧ E.is w' x v ∧ x ≠ .nil ∧ x.kind = some kd ∧ Below w.heap.size w w' := by
  by_cases h0 : l.length = 0
  · have hq : l = [] := List.length_eq_zero_iff.1 h0
    subst hq
    go_enter Tryd.func17, Tryd.ntmps17
    go_wp2
    go_ret
    exact ⟨_, .errno kd, rfl, rfl, (by intro h; cases h), rfl, (Below.refl _ _).alloc (Nat.le_refl _) _⟩
  · obtain ⟨m, hm⟩ : ∃ m, l.length = m + 1 := ⟨l.length - 1, by omega⟩
    have hm8 : m ≤ 8 := by omega
    have HM := Lib.hid hm
    obtain ⟨ad, hA, hx0, hx1⟩ := at_T43 hr (m : Int) (by omega) (by omega)
    subst hA
    rw [Int.toNat_natCast] at hx0 hx1
    have hb0 : Below w.heap.size w (w.alloc (.cells #[.slice (some ad) l.length c, .int .i64 kd] 26)) := (Below.refl w.heap.size w).alloc (Nat.le_refl _) _
    have HR := Lib.hid hr
    have hmi : ((l.length : Int)) = (m : Int) + 1 := by omega
    have hx0' := Lib.hid (pw_cell_below hb0 hx0)
    have hx1' := Lib.hid (pw_cell_below hb0 hx1)
    have hq0 : Hid ((w.alloc (.cells #[.slice (some ad) l.length c, .int .i64 kd] 26)).cell? ⟨w.heap.size, 0, none⟩ = some (.slice (some ad) l.length c)) := Lib.hid (by rw [World.cell?_alloc_new]; rfl)
    have hq1 : Hid ((w.alloc (.cells #[.slice (some ad) l.length c, .int .i64 kd] 26)).cell? ⟨w.heap.size, 1, none⟩ = some (.int .i64 kd)) := Lib.hid (by rw [World.cell?_alloc_new]; rfl)
    have c0 : ((l.length : Int) == 0) = false := beq_eq_false_iff_ne.2 (by omega)
    have c1 : wrap64 ((l.length : Int) - 1) = (m : Int) := by unfold wrap64; omega
    have c1' : IntKind.i64.wrap ((l.length : Int) - 1) = (m : Int) := by rw [IntWalk.i64_in _ (by omega)]; omega
    have c2 : decide ((m : Int) < (l.length : Int)) = true := decide_eq_true (by omega)
    have c3 : m < l.length := by omega
    have c4 : wrap64 ((l.length : Int) - 2) = (m : Int) - 1 := by unfold wrap64; omega
    have HB0 := Lib.hid hb0
    clear hr hb0 hx0 hx1 h0 hm hmi
    go_enter Tryd.func17, Tryd.ntmps17
    go_wp2
    go_region_held3 (fun W' => W'.cell? ⟨w.heap.size, 0, none⟩ = some (.slice (some ad) l.length c) ∧ W'.cell? ⟨w.heap.size, 1, none⟩ = some (.int .i64 kd) ∧ W'.cell? (ad.add (m * 2)) = some (.int .i64 (rd_T43 l (m : Int)).f0) ∧ W'.cell? ⟨(ad.add (m * 2)).block, (ad.add (m * 2)).off + 1, none⟩ = some (.string (rd_T43 l (m : Int)).f1)) (first | exact ⟨q0.out, q1.out, x0.out, x1.out⟩ | exact ⟨hq0.out, hq1.out, hx0'.out, hx1'.out⟩) (first
      | (go_at_call 11; refine (New_is kd _ _ _ hk).mono ?_; rintro e w1 ⟨v1, rfl, h1, hb1⟩; have X1 := Lib.hid h1; have q0 := Lib.hid (pw_cell_below hb1 hq0.out); have q1 := Lib.hid (pw_cell_below hb1 hq1.out); have x0 := Lib.hid (pw_cell_below hb1 hx0'.out); have x1 := Lib.hid (pw_cell_below hb1 hx1'.out); have B1 := Lib.hid (below_step (below_drew HB0.out) hb1); clear h1 hb1))
    clear hx0' hx1' hq0 hq1 x0 x1 q1 c1 c1' c2 c3
    go_wp2
    go_loopw [4, 5] (fun v iv wr => ∃ (x : E) (j : Nat), iv = .int .i64 ((j : Int) - 1) ∧ Hid (j ≤ m) ∧ Hid (E.is wr x v) ∧ Hid (x ≠ .nil) ∧ Hid (x.kind = some kd) ∧ Hid (wr.cell? ⟨w.heap.size, 0, none⟩ = some (.slice (some ad) l.length c)) ∧ Hid (Below w.heap.size w wr)) (fun _ iv _ => (intOf iv + 1).toNat)
    case atStart => exact ⟨_, m, congrArg (Value.int IntKind.i64) (show (l.length : Int) - 2 = (m : Int) - 1 by have := HM.out; omega), Lib.hid (Nat.le_refl _), X1, Lib.hid (by intro h; cases h), Lib.hid rfl, q0, B1⟩
    case round =>
      obtain ⟨x, j, rfl, hj, hx, hxn, hxk, hbx, hbl⟩ := hrel
      cases j with
      | zero =>
        have hji : (((0 : Nat) : Int) - 1) = -1 := rfl
        simp only [hji]
        clear hji
        go_wp2
        go_ret
        exact ⟨_, x, rfl, hx.out, hxn.out, hxk.out, hbl.out⟩
      | succ i =>
        have hji : (((i + 1 : Nat) : Int) - 1) = (i : Int) := by omega
        have him := hj.out
        have hlm := HM.out
        obtain ⟨ad', hA, hx0, hx1⟩ := at_T43 HR.out (i : Int) (by omega) (by omega)
        obtain rfl := Option.some.inj hA
        rw [Int.toNat_natCast] at hx0 hx1
        have hi0 : (0 : Int) ≤ (i : Int) := Int.natCast_nonneg _
        have c2 : decide ((i : Int) < (l.length : Int)) = true := decide_eq_true (by omega)
        have c3 : i < l.length := by omega
        have c5 : wrap64 ((i : Int) - 1) = (i : Int) - 1 := by unfold wrap64; omega
        have y0 := Lib.hid (pw_cell_below hbl.out hx0)
        have y1 := Lib.hid (pw_cell_below hbl.out hx1)
        have HI := Lib.hid (show i ≤ m by omega)
        have XB : Hid (E.is wr.drew x u4) := Lib.hid (E.is_below hx.out (below_drew (Below.refl wr.heap.size wr)))
        simp only [hji]
        clear hji him hlm hx0 hx1 hA hj
        go_wp2
        go_region_held3 (fun W' => W'.cell? ⟨w.heap.size, 0, none⟩ = some (.slice (some ad) l.length c) ∧ W'.cell? (ad.add (i * 2)) = some (.int .i64 (rd_T43 l (i : Int)).f0) ∧ W'.cell? ⟨(ad.add (i * 2)).block, (ad.add (i * 2)).off + 1, none⟩ = some (.string (rd_T43 l (i : Int)).f1)) (first | exact ⟨z0.out, z1.out, z2.out⟩ | exact ⟨hbx.out, y0.out, y1.out⟩) (first
          | (go_at_call 12; refine (Wrap_is x _ _ _ _ XB.out hxn.out).mono ?_; rintro e w2 ⟨v2, rfl, h2, hb2⟩; have X2 := Lib.hid h2; have z0 := Lib.hid (pw_cell_below hb2 hbx.out); have z1 := Lib.hid (pw_cell_below hb2 y0.out); have z2 := Lib.hid (pw_cell_below hb2 y1.out); have B2 := Lib.hid (below_step (below_drew hbl.out) hb2); clear h2 hb2))
        go_wp2
        refine ⟨⟨_, i, rfl, HI, X2, Lib.hid (by intro h; cases h), hxk, z0, B2⟩, ?_⟩
        show ((i : Int) - 1 + 1).toNat < ((i : Int) + 1).toNat
        omega
end Go.Proofs.YtlngefnimnjkkaaDoor.P
