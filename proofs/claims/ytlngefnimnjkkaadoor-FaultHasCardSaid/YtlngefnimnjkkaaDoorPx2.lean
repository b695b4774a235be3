-- Written for this claim by the session's own run of the print, functions proved by hand put in.
import Derived.Test.YtlngefnimnjkkaaDoorPx0
namespace Go.Proofs.YtlngefnimnjkkaaDoor.P
open Go.RowKit Go.Proofs.YtlngefnimnjkkaaDoorW.PrintWords Go.Proofs.YtlngefnimnjkkaaDoorW.PrintLast Go.Proofs.YtlngefnimnjkkaaDoorW.PrintMore
attribute [local go_sem] max2_int min2_int max_two min_two max_three min_three max_four min_four   -- for this text's walks alone
set_option linter.unusedVariables false
set_option linter.unusedSimpArgs false

/-! ### isoglosslaw01_row: function 10 -/
mutual
def isoglosslaw01_row.j0 : Nat → List (S43) → Int → Option ((List (S43)) × Int)
 | 0, _, _ => none
 | k + 1, x0, x105001 => isoglosslaw01_row.l0 k x0 0 ([] : List (S43)) x105001
def isoglosslaw01_row.l0 : Nat → List (S43) → Int → List (S43) → Int → Option ((List (S43)) × Int)
 | 0, _, _, _, _ => none
 | k + 1, x0, x6, x105000, x105001 => if x6 < (x0.length : Int) then (isoglosslaw01_row.j2 k x0 x6 (decide (x6 < 9)) x105000 x105001) else (isoglosslaw01_row.j2 k x0 x6 false x105000 x105001)
def isoglosslaw01_row.j2 : Nat → List (S43) → Int → Bool → List (S43) → Int → Option ((List (S43)) × Int)
 | 0, _, _, _, _, _ => none
 | k + 1, x0, x6, x20, x105000, x105001 => if x20 = true then (if 0 ≤ x6 then (if x6 < (x0.length : Int) then (if (((rd_T43 x0 x6).f1).size : Int) > 12 then (if 0 ≤ 12 then (if 12 ≤ (((rd_T43 x0 x6).f1).size : Int) then (if x105000.length < 5864062014805 then (isoglosslaw01_row.l0 k x0 (wrap64 (x6 + 1)) (x105000 ++ [(⟨(rd_T43 x0 x6).f0, ((rd_T43 x0 x6).f1).extract 0 12⟩ : S43)]) x105001) else (none)) else (none)) else (none)) else (if x105000.length < 5864062014805 then (isoglosslaw01_row.l0 k x0 (wrap64 (x6 + 1)) (x105000 ++ [(⟨(rd_T43 x0 x6).f0, (rd_T43 x0 x6).f1⟩ : S43)]) x105001) else (none))) else (none)) else (none)) else (some (x105000, x105001))
end
def isoglosslaw01_row.f (k : Nat) (l0 : List (S43)) (a1 : Int) : Option ((List (S43)) × Int) := if a1 = 0 then (isoglosslaw01_row.j0 k l0 12) else (isoglosslaw01_row.j0 k l0 a1)
theorem isoglosslaw01_row.mono_l : ∀ k, (∀ y0 y1, LeO (isoglosslaw01_row.j0 k y0 y1) (isoglosslaw01_row.j0 (k + 1) y0 y1)) ∧ (∀ y0 y1 y2 y3, LeO (isoglosslaw01_row.l0 k y0 y1 y2 y3) (isoglosslaw01_row.l0 (k + 1) y0 y1 y2 y3)) ∧ (∀ y0 y1 y2 y3 y4, LeO (isoglosslaw01_row.j2 k y0 y1 y2 y3 y4) (isoglosslaw01_row.j2 (k + 1) y0 y1 y2 y3 y4))
 | 0 => ⟨fun _ _ r h => by simp [isoglosslaw01_row.j0] at h, fun _ _ _ _ r h => by simp [isoglosslaw01_row.l0] at h, fun _ _ _ _ _ r h => by simp [isoglosslaw01_row.j2] at h⟩
 | k + 1 => by
  obtain ⟨ih0, ih1, ih2⟩ := isoglosslaw01_row.mono_l k
  refine ⟨?_, ?_, ?_⟩
  ·intro y0 y1
   unfold isoglosslaw01_row.j0
   repeat' first
   | (with_reducible exact ih0 _ _)
   | (with_reducible exact ih1 _ _ _ _)
   | (with_reducible exact ih2 _ _ _ _ _)
   | (with_reducible exact LeO.refl _)
   | (with_reducible exact LeO.none _)
   | (with_reducible refine LeO.ite ?_ ?_)
   | (with_reducible refine LeO.bind ?_ (fun _ => ?_))
   | exact ih0 _ _
   | exact ih1 _ _ _ _
   | exact ih2 _ _ _ _ _
   | exact LeO.none _
   | refine LeO.ite ?_ ?_
   | refine LeO.bind ?_ (fun _ => ?_)
  ·intro y0 y1 y2 y3
   unfold isoglosslaw01_row.l0
   repeat' first
   | (with_reducible exact ih0 _ _)
   | (with_reducible exact ih1 _ _ _ _)
   | (with_reducible exact ih2 _ _ _ _ _)
   | (with_reducible exact LeO.refl _)
   | (with_reducible exact LeO.none _)
   | (with_reducible refine LeO.ite ?_ ?_)
   | (with_reducible refine LeO.bind ?_ (fun _ => ?_))
   | exact ih0 _ _
   | exact ih1 _ _ _ _
   | exact ih2 _ _ _ _ _
   | exact LeO.none _
   | refine LeO.ite ?_ ?_
   | refine LeO.bind ?_ (fun _ => ?_)
  ·intro y0 y1 y2 y3 y4
   unfold isoglosslaw01_row.j2
   repeat' first
   | (with_reducible exact ih0 _ _)
   | (with_reducible exact ih1 _ _ _ _)
   | (with_reducible exact ih2 _ _ _ _ _)
   | (with_reducible exact LeO.refl _)
   | (with_reducible exact LeO.none _)
   | (with_reducible refine LeO.ite ?_ ?_)
   | (with_reducible refine LeO.bind ?_ (fun _ => ?_))
   | exact ih0 _ _
   | exact ih1 _ _ _ _
   | exact ih2 _ _ _ _ _
   | exact LeO.none _
   | refine LeO.ite ?_ ?_
   | refine LeO.bind ?_ (fun _ => ?_)
theorem isoglosslaw01_row.mono : ∀ a0 a1 k, LeO (isoglosslaw01_row.f k a0 a1) (isoglosslaw01_row.f (k + 1) a0 a1) := by
 intro a0 a1 k
 obtain ⟨ih0, ih1, ih2⟩ := isoglosslaw01_row.mono_l k
 unfold isoglosslaw01_row.f
 repeat' first
   | (with_reducible exact ih0 _ _)
   | (with_reducible exact ih1 _ _ _ _)
   | (with_reducible exact ih2 _ _ _ _ _)
   | (with_reducible exact LeO.refl _)
   | (with_reducible exact LeO.none _)
   | (with_reducible refine LeO.ite ?_ ?_)
   | (with_reducible refine LeO.bind ?_ (fun _ => ?_))
   | exact ih0 _ _
   | exact ih1 _ _ _ _
   | exact ih2 _ _ _ _ _
   | exact LeO.none _
   | refine LeO.ite ?_ ?_
   | refine LeO.bind ?_ (fun _ => ?_)
set_option maxHeartbeats 8000000 in
set_option maxRecDepth 100000 in
theorem isoglosslaw01_row.calls (k : Nat) (A0 : Option Addr) (c0 : Nat) (l0 : List (S43)) (a1 : Int) (r1 : List (S43)) (r2 : Int) (w : World) (hr0 : Kd.C k43 w A0 l0.length l0) (hc0 : l0.length ≤ c0) (h : isoglosslaw01_row.f k l0 a1 = some (r1, r2)) :
  Calls Tryd.prog 10 #[.slice A0 l0.length c0, .int .i64 a1] w fun e w' => ∃ v0_ : Value, e = .returned (.agg #[v0_, .int .i64 r2]) ∧ Kd.R k43 43 w' w.heap.size (fun _ => True) v0_ r1 ∧ Below w.heap.size w w' := by
 have hu26 := Tryd.underlying26
 have hu43 := Tryd.underlying43
 have HR0 := Aside0.mk hr0
 have HC0 := Aside0.mk hc0
 clear hr0 hc0
 have HB := Aside0.mk (Below.refl w.heap.size w)
 have H : (if a1 = 0 then (isoglosslaw01_row.j0 k l0 12) else (isoglosslaw01_row.j0 k l0 a1)) = some (r1, r2) := h
 clear h
 have HC3 := Aside0.mk H
 clear H
 go_enter Tryd.func10, Tryd.ntmps10
 go_upto_if 11 with (first | ((with_reducible refine gate_dst (N := 4) rfl ?_); refine box_event ?hg (N := 4) ?hd (cs := #[.slice none 0 0, .int .i64 0]) (t := 26) ?hr ?_; (case hd => rfl); (case hg => rfl); (case hr => first | (go_simp; done) | (go_simp; rfl)); intro gb103 hg w4 hbox hb; have n0_ := Aside0.mk (below_step (by repeat (first | (with_reducible first | exact HB.out | apply below_alloc | apply pw_below_drewN | apply below_drew1) | exact HB.out)) hb); have n1_ := Aside0.mk (hbox); have n2_ := Aside0.mk ((by rw [hg]; exact (below_size (by repeat (first | (with_reducible first | exact HB.out | apply below_alloc | apply pw_below_drewN | apply below_drew1) | exact HB.out))) : w.heap.size ≤ gb103)); have n3_ := Aside0.mk ((by rw [hg]; exact (below_size (by repeat (first | (with_reducible first | exact HB.out | apply below_alloc | apply pw_below_drewN | apply below_drew1) | exact HB.out))) : w.heap.size ≤ gb103)); clear HB; have HB := n0_; have BK103 := n1_; have GW103 := n2_; have GE103 := n3_; clear n0_ n1_ n2_ n3_; clear hb hbox hg) | ((with_reducible refine gate_dst (N := 5) rfl ?_); refine box_event ?hg (N := 5) ?hd (cs := #[.slice none 0 0, .int .i64 0]) (t := 26) ?hr ?_; (case hd => rfl); (case hg => rfl); (case hr => first | (go_simp; done) | (go_simp; rfl)); intro gb104 hg w5 hbox hb; have n0_ := Aside0.mk (blk_below (g := gb103) (o := .cells #[.slice none 0 0, .int .i64 0] 26 (0, 0)) (by (with_reducible repeat (first | refine blk_drewN ?_ _ | refine blk_drew ?_ | refine blk_alloc ?_ _)); exact BK103.out) hb); have n1_ := Aside0.mk (below_step (by repeat (first | (with_reducible first | exact HB.out | apply below_alloc | apply pw_below_drewN | apply below_drew1 | refine below_set ?_ GE103.out) | exact HB.out)) hb); have n2_ := Aside0.mk (hbox); have n3_ := Aside0.mk ((by rw [hg]; exact (below_size (by repeat (first | (with_reducible first | exact HB.out | apply below_alloc | apply pw_below_drewN | apply below_drew1 | refine below_set ?_ GE103.out) | exact HB.out))) : w.heap.size ≤ gb104)); have n4_ := Aside0.mk ((by rw [hg]; exact (below_size (by repeat (first | (with_reducible first | exact HB.out | apply below_alloc | apply pw_below_drewN | apply below_drew1 | refine below_set ?_ GE103.out) | exact HB.out))) : w.heap.size ≤ gb104)); have n5_ := Aside0.mk ((by rw [hg]; exact Nat.ne_of_lt (blk_lt (g := gb103) (o := .cells #[.slice none 0 0, .int .i64 0] 26 (0, 0)) (by (with_reducible repeat (first | refine blk_drewN ?_ _ | refine blk_drew ?_ | refine blk_alloc ?_ _)); exact BK103.out)) : gb103 ≠ gb104)); have n6_ := Aside0.mk ((by rw [hg]; exact Nat.ne_of_gt (blk_lt (g := gb103) (o := .cells #[.slice none 0 0, .int .i64 0] 26 (0, 0)) (by (with_reducible repeat (first | refine blk_drewN ?_ _ | refine blk_drew ?_ | refine blk_alloc ?_ _)); exact BK103.out)) : gb104 ≠ gb103)); clear BK103; clear HB; have BK103 := n0_; have HB := n1_; have BK104 := n2_; have GW104 := n3_; have GE104 := n4_; have NB103_104 := n5_; have NB104_103 := n6_; clear n0_ n1_ n2_ n3_ n4_ n5_ n6_; clear hb hbox hg; have hnb6 := NB104_103.out; have hnc6 := NB103_104.out; have hcz7_0 : w5.cell? ⟨gb104, 0, none⟩ = some (.slice none 0 0) := (blk_cell BK104.out 0).trans rfl; have hcz7_1 : w5.cell? ⟨gb104, 1, none⟩ = some (.int .i64 0) := (blk_cell BK104.out 1).trans rfl; have hfz7_0 := blk_frozen BK104.out 0; have hfz7_1 := blk_frozen BK104.out 1))
 (try simp only [Act.put, List.setIfInBounds_toArray, List.set_cons_zero, List.set_cons_succ])
 go_cut [] (fun wc => ∃ (kq : Nat) (x105001_2 : Int), Aside0 (isoglosslaw01_row.j0 kq l0 x105001_2 = some (r1, r2)) ∧ Aside0 (kq ≤ k) ∧ Aside0 (wc.heap[gb103]? = some (.cells #[(.slice none 0 0), .int .i64 0] 26 (0, 0))) ∧ Aside0 (wc.heap[gb104]? = some (.cells #[(.slice none 0 0), .int .i64 x105001_2] 26 (0, 0))) ∧ Aside0 (Below w.heap.size w wc))
 case first =>
  have H := HC3.out
  clear HC3
  by_cases c8 : a1 = 0
  ·rw [if_pos c8] at H
   have c8b0 : (a1 == 0) = true := beq_iff_eq.mpr c8
   have c8b1 : (a1 != 0) = false := bne_eq_false_iff_eq.mpr c8
   clear c8
   (first | rw [c8b0] | rw [c8b1] | (simp only [i64_w, i32_w]; rw [c8b0]) | skip)
   have H' := Aside0.mk H
   clear H
   have hnb9 := NB104_103.out
   have hnc9 := NB103_104.out
   have hcz10_0 : w5.cell? ⟨gb104, 0, none⟩ = some (.slice none 0 0) := (blk_cell BK104.out 0).trans rfl
   have hcz10_1 : w5.cell? ⟨gb104, 1, none⟩ = some (.int .i64 0) := (blk_cell BK104.out 1).trans rfl
   have hfz10_0 := blk_frozen BK104.out 0
   have hfz10_1 := blk_frozen BK104.out 1
   go_wp2
   go_meet
   case rel => exact ⟨_, (12), H', ⟨by first | omega | exact Nat.le_refl _⟩, ⟨by (with_reducible repeat (first | refine blk_drewN ?_ _ | refine blk_drew ?_ | refine blk_alloc ?_ _)); refine blk_far ?_ NB103_104.out _; (with_reducible repeat (first | refine blk_drewN ?_ _ | refine blk_drew ?_ | refine blk_alloc ?_ _)); refine blk_far ?_ NB103_104.out _; (with_reducible repeat (first | refine blk_drewN ?_ _ | refine blk_drew ?_ | refine blk_alloc ?_ _)); refine blk_far ?_ NB103_104.out _; (with_reducible repeat (first | refine blk_drewN ?_ _ | refine blk_drew ?_ | refine blk_alloc ?_ _)); exact BK103.out⟩, ⟨by (with_reducible repeat (first | refine blk_drewN ?_ _ | refine blk_drew ?_ | refine blk_alloc ?_ _)); refine blk_put (cs := #[.slice none 0 0, .int .i64 a1]) ?_ 1 _ rfl; (with_reducible repeat (first | refine blk_drewN ?_ _ | refine blk_drew ?_ | refine blk_alloc ?_ _)); refine blk_put (cs := #[.slice none 0 0, .int .i64 0]) ?_ 1 _ rfl; (with_reducible repeat (first | refine blk_drewN ?_ _ | refine blk_drew ?_ | refine blk_alloc ?_ _)); refine blk_put (cs := #[.slice none 0 0, .int .i64 0]) ?_ 0 _ rfl; (with_reducible repeat (first | refine blk_drewN ?_ _ | refine blk_drew ?_ | refine blk_alloc ?_ _)); exact BK104.out⟩, ⟨by repeat (first | (with_reducible first | exact HB.out | apply below_alloc | apply pw_below_drewN | apply below_drew1 | refine below_set ?_ GE103.out | refine below_set ?_ GE104.out) | exact HB.out)⟩⟩
  ·rw [if_neg c8] at H
   have c8b0 : (a1 == 0) = false := beq_eq_false_iff_ne.mpr c8
   have c8b1 : (a1 != 0) = true := bne_iff_ne.mpr c8
   (first | rw [c8b0] | rw [c8b1] | (simp only [i64_w, i32_w]; rw [c8b0]) | skip)
   have H' := Aside0.mk H
   clear H
   go_wp2
   go_meet
   case rel => exact ⟨_, (a1), H', ⟨by first | omega | exact Nat.le_refl _⟩, ⟨by (with_reducible repeat (first | refine blk_drewN ?_ _ | refine blk_drew ?_ | refine blk_alloc ?_ _)); refine blk_far ?_ NB103_104.out _; (with_reducible repeat (first | refine blk_drewN ?_ _ | refine blk_drew ?_ | refine blk_alloc ?_ _)); refine blk_far ?_ NB103_104.out _; (with_reducible repeat (first | refine blk_drewN ?_ _ | refine blk_drew ?_ | refine blk_alloc ?_ _)); exact BK103.out⟩, ⟨by (with_reducible repeat (first | refine blk_drewN ?_ _ | refine blk_drew ?_ | refine blk_alloc ?_ _)); refine blk_put (cs := #[.slice none 0 0, .int .i64 0]) ?_ 1 _ rfl; (with_reducible repeat (first | refine blk_drewN ?_ _ | refine blk_drew ?_ | refine blk_alloc ?_ _)); refine blk_put (cs := #[.slice none 0 0, .int .i64 0]) ?_ 0 _ rfl; (with_reducible repeat (first | refine blk_drewN ?_ _ | refine blk_drew ?_ | refine blk_alloc ?_ _)); exact BK104.out⟩, ⟨by repeat (first | (with_reducible first | exact HB.out | apply below_alloc | apply pw_below_drewN | apply below_drew1 | refine below_set ?_ GE103.out | refine below_set ?_ GE104.out) | exact HB.out)⟩⟩
 case rest =>
  clear HC3
  try clear c1
  try clear p2
  try clear c6
  try clear c8
  try clear c8b0
  try clear c8b1
  try clear c9
  try clear c10
  try clear hcz10_0
  try clear hcz10_1
  try clear hcz7_0
  try clear hcz7_1
  try clear hfz10_0
  try clear hfz10_1
  try clear hfz7_0
  try clear hfz7_1
  obtain ⟨kq, x105001_2, HA, HJ2, BK103, BK104, HB⟩ := hcut
  cases kq with
  | zero => exact absurd HA.out (by simp [isoglosslaw01_row.j0])
  | succ kj2 =>
   have H := HA.out
   clear HA
   simp only [isoglosslaw01_row.j0] at H
   have H' := Aside0.mk H
   clear H
   go_wp2
   go_loopg [6] kj2 (fun kq v6 w' => ∃ (x6_2 : Int) (x105000_2 : List (S43)) (u105000 : Value), v6 = .int .i64 x6_2 ∧ Aside0 (isoglosslaw01_row.l0 kq l0 x6_2 x105000_2 x105001_2 = some (r1, r2)) ∧ Aside0 (kq ≤ kj2) ∧ Aside0 (Kd.R k43 43 w' w.heap.size (fun _ => True) u105000 x105000_2) ∧ Aside0 (w'.heap[gb103]? = some (.cells #[(.slice none 0 0), .int .i64 0] 26 (0, 0))) ∧ Aside0 (w'.heap[gb104]? = some (.cells #[u105000, .int .i64 x105001_2] 26 (0, 0))) ∧ Aside0 (Below w.heap.size w w'))
   case atStart => exact ⟨(0), (([] : List (S43))), (.slice none 0 0), (by first | rfl | (simp; done) | (simp [*]; done)), H', ⟨Nat.le_refl _⟩, ⟨by first | exact Kd.R_nil _ _ _ _ _ | exact Kd.N_nil _ _ _ _ _ | exact Kd.V_nil _ _ _ _ _ | exact Kd.Q_nil _ _ _ _ _ | exact Kd.S_nil _ _ _ _ _⟩, ⟨by (with_reducible repeat (first | refine blk_drewN ?_ _ | refine blk_drew ?_ | refine blk_alloc ?_ _)); exact BK103.out⟩, ⟨by (with_reducible repeat (first | refine blk_drewN ?_ _ | refine blk_drew ?_ | refine blk_alloc ?_ _)); exact BK104.out⟩, ⟨by repeat (first | (with_reducible first | exact HB.out | apply below_alloc | apply pw_below_drewN | apply below_drew1 | refine below_set ?_ GE103.out | refine below_set ?_ GE104.out) | exact HB.out)⟩⟩
   case round =>
    clear H'
    try clear c1
    try clear p2
    try clear c6
    try clear c8
    try clear c8b0
    try clear c8b1
    try clear c9
    try clear c10
    try clear hcz10_0
    try clear hcz10_1
    try clear hcz7_0
    try clear hcz7_1
    try clear hfz10_0
    try clear hfz10_1
    try clear hfz7_0
    try clear hfz7_1
    try clear p2
    obtain ⟨x6_2, x105000_2, u105000, rfl, HA, HK2, HO_105000, BK103, BK104, HB⟩ := hrel
    cases gk with
    | zero => exact absurd HA.out (by simp [isoglosslaw01_row.l0])
    | succ k2 =>
     have H := HA.out
     clear HA
     simp only [isoglosslaw01_row.l0] at H
     have HC11 := Aside0.mk H
     clear H
     go_upto_region 5 with (fail)
     go_cut [20] (fun v20 wc => ∃ (kq : Nat) (x20_10 : Bool), v20 = .bool x20_10 ∧ Aside0 (isoglosslaw01_row.j2 kq l0 x6_2 x20_10 x105000_2 x105001_2 = some (r1, r2)) ∧ Aside0 (kq ≤ k2) ∧ Aside0 (Kd.R k43 43 wc w.heap.size (fun _ => True) u105000 x105000_2) ∧ Aside0 (wc.heap[gb103]? = some (.cells #[(.slice none 0 0), .int .i64 0] 26 (0, 0))) ∧ Aside0 (wc.heap[gb104]? = some (.cells #[u105000, .int .i64 x105001_2] 26 (0, 0))) ∧ Aside0 (Below w.heap.size w wc))
     case first =>
      have H := HC11.out
      clear HC11
      by_cases c12 : x6_2 < (l0.length : Int)
      ·rw [if_pos c12] at H
       have c12b0 : decide (x6_2 < (l0.length : Int)) = true := decide_eq_true c12
       clear c12
       (first | rw [c12b0] | (simp only [i64_w, i32_w]; rw [c12b0]) | skip)
       have H' := Aside0.mk H
       clear H
       go_wp2
       go_meet
       case rel => exact ⟨_, (decide (x6_2 < 9)), (by first | rfl | (simp; done) | (simp [*]; done)), H', ⟨by have := HJ2.out; have := HK2.out; first | omega | exact Nat.le_refl _⟩, ⟨by (with_reducible repeat (first | apply Kd.R_alloc | apply Kd.R_drewN | apply Kd.R_drew)); exact HO_105000.out⟩, ⟨by (with_reducible repeat (first | refine blk_drewN ?_ _ | refine blk_drew ?_ | refine blk_alloc ?_ _)); exact BK103.out⟩, ⟨by (with_reducible repeat (first | refine blk_drewN ?_ _ | refine blk_drew ?_ | refine blk_alloc ?_ _)); exact BK104.out⟩, ⟨by repeat (first | (with_reducible first | exact HB.out | apply below_alloc | apply pw_below_drewN | apply below_drew1 | refine below_set ?_ GE103.out | refine below_set ?_ GE104.out) | exact HB.out)⟩⟩
      ·rw [if_neg c12] at H
       have c12b0 : decide (x6_2 < (l0.length : Int)) = false := decide_eq_false c12
       clear c12
       (first | rw [c12b0] | (simp only [i64_w, i32_w]; rw [c12b0]) | skip)
       have H' := Aside0.mk H
       clear H
       go_wp2
       go_meet
       case rel => exact ⟨_, (false), (by first | rfl | (simp; done) | (simp [*]; done)), H', ⟨by have := HJ2.out; have := HK2.out; first | omega | exact Nat.le_refl _⟩, ⟨by (with_reducible repeat (first | apply Kd.R_alloc | apply Kd.R_drewN | apply Kd.R_drew)); exact HO_105000.out⟩, ⟨by (with_reducible repeat (first | refine blk_drewN ?_ _ | refine blk_drew ?_ | refine blk_alloc ?_ _)); exact BK103.out⟩, ⟨by (with_reducible repeat (first | refine blk_drewN ?_ _ | refine blk_drew ?_ | refine blk_alloc ?_ _)); exact BK104.out⟩, ⟨by repeat (first | (with_reducible first | exact HB.out | apply below_alloc | apply pw_below_drewN | apply below_drew1 | refine below_set ?_ GE103.out | refine below_set ?_ GE104.out) | exact HB.out)⟩⟩
     case rest =>
      clear HC11
      try clear c1
      try clear p2
      try clear c6
      try clear c8
      try clear c8b0
      try clear c8b1
      try clear c9
      try clear c10
      try clear c12
      try clear c12b0
      try clear hcz10_0
      try clear hcz10_1
      try clear hcz7_0
      try clear hcz7_1
      try clear hfz10_0
      try clear hfz10_1
      try clear hfz7_0
      try clear hfz7_1
      try clear p2
      obtain ⟨kq, x20_10, rfl, HA, HJ10, HO_105000, BK103, BK104, HB⟩ := hcut
      cases kq with
      | zero => exact absurd HA.out (by simp [isoglosslaw01_row.j2])
      | succ kj10 =>
       have H := HA.out
       clear HA
       simp only [isoglosslaw01_row.j2] at H
       by_cases c13 : x20_10 = true
       ·subst c13
        have H1 : (if 0 ≤ x6_2 then (if x6_2 < (l0.length : Int) then (if (((rd_T43 l0 x6_2).f1).size : Int) > 12 then (if 0 ≤ 12 then (if 12 ≤ (((rd_T43 l0 x6_2).f1).size : Int) then (if x105000_2.length < 5864062014805 then (isoglosslaw01_row.l0 kj10 l0 (wrap64 (x6_2 + 1)) (x105000_2 ++ [(⟨(rd_T43 l0 x6_2).f0, ((rd_T43 l0 x6_2).f1).extract 0 12⟩ : S43)]) x105001_2) else (none)) else (none)) else (none)) else (if x105000_2.length < 5864062014805 then (isoglosslaw01_row.l0 kj10 l0 (wrap64 (x6_2 + 1)) (x105000_2 ++ [(⟨(rd_T43 l0 x6_2).f0, (rd_T43 l0 x6_2).f1⟩ : S43)]) x105001_2) else (none))) else (none)) else (none)) = some (r1, r2) := by rw [if_pos rfl] at H; exact H
        clear H
        have H := H1
        clear H1
        by_cases c14 : 0 ≤ x6_2
        ·rw [if_pos c14] at H
         have c14b0 : decide (0 ≤ x6_2) = true := decide_eq_true c14
         clear c14
         by_cases c15 : x6_2 < (l0.length : Int)
         ·rw [if_pos c15] at H
          have c15b0 : decide (x6_2 < (l0.length : Int)) = true := decide_eq_true c15
          clear c15
          by_cases c16 : (((rd_T43 l0 x6_2).f1).size : Int) > 12
          ·rw [if_pos c16] at H
           have c16b0 : decide (12 < (((rd_T43 l0 x6_2).f1).size : Int)) = true := decide_eq_true c16
           have c16b1 : decide (12 < ((rd_T43 l0 x6_2).f1).size) = true := decide_eq_true (by omega)
           clear c16
           by_cases c17 : 0 ≤ 12
           ·rw [if_pos c17] at H
            have c17b0 := eq_true c17
            have c17b1 : decide (0 ≤ 12) = true := decide_eq_true c17
            clear c17
            by_cases c18 : 12 ≤ (((rd_T43 l0 x6_2).f1).size : Int)
            ·rw [if_pos c18] at H
             have c18b0 := eq_true c18
             have c18b1 : decide (12 ≤ (((rd_T43 l0 x6_2).f1).size : Int)) = true := decide_eq_true c18
             clear c18
             by_cases c19 : x105000_2.length < 5864062014805
             ·rw [if_pos c19] at H
              have LMc19 := Aside0.mk c19
              clear c19
              obtain ⟨y107, hy107⟩ : ∃ y_ : List (S43), y_ = (x105000_2 ++ [(⟨(rd_T43 l0 x6_2).f0, ((rd_T43 l0 x6_2).f1).extract 0 12⟩ : S43)]) := ⟨_, rfl⟩
              replace H : (isoglosslaw01_row.l0 kj10 l0 (wrap64 (x6_2 + 1)) y107 x105001_2) = some (r1, r2) := by first | (rw [hy107]; with_reducible exact H) | (have H2_ := (Option.bind_some _ _).symm.trans H; rw [hy107]; with_reducible exact H2_) | (have H2_ := (Option.bind_some _ _).symm.trans H; with_reducible exact H2_) | with_reducible exact H | (rw [hy107]; exact H) | exact H
              have Ny107 := Aside0.mk hy107
              clear hy107
              have H' := Aside0.mk H
              clear H
              have p105 : 0 ≤ (x6_2 : Int) := of_decide_eq_true (by first | (with_reducible assumption) | assumption)
              have q105 : x6_2 < (l0.length : Int) := of_decide_eq_true (by first | (with_reducible assumption) | assumption)
              obtain ⟨ad105, e105, hx105_0, hx105_1⟩ := at_T43 HR0.out x6_2 p105 q105
              cases e105
              replace hx105_0 := (HB.out.cell (World.block_lt_of_cell? w _ hx105_0)).trans hx105_0
              replace hx105_1 := (HB.out.cell (World.block_lt_of_cell? w _ hx105_1)).trans hx105_1
              replace p105 := eq_true p105
              replace q105 := eq_true q105
              go_wp2_with (first | ((with_reducible refine gate_dst (N := 7) rfl ?_); refine box_event ?hg (N := 7) ?hd (cs := #[.int .i64 0, .string (⟨#[]⟩ : ByteArray)]) (t := 43) ?hr ?_; (case hd => rfl); (case hg => rfl); (case hr => first | (go_simp; done) | (go_simp; rfl)); intro gb106 hg w20 hbox hb; have n0_ := Aside0.mk (Kd.R_below (Kd.R_elderB (by (with_reducible repeat (first | apply Kd.R_alloc | apply Kd.R_drewN | apply Kd.R_drew)); exact HO_105000.out) gb106 (Nat.le_of_eq hg.symm)) hb); have n1_ := Aside0.mk (blk_below (g := gb103) (o := .cells #[.slice none 0 0, .int .i64 0] 26 (0, 0)) (by (with_reducible repeat (first | refine blk_drewN ?_ _ | refine blk_drew ?_ | refine blk_alloc ?_ _)); exact BK103.out) hb); have n2_ := Aside0.mk (blk_below (g := gb104) (o := .cells #[u105000, .int .i64 x105001_2] 26 (0, 0)) (by (with_reducible repeat (first | refine blk_drewN ?_ _ | refine blk_drew ?_ | refine blk_alloc ?_ _)); exact BK104.out) hb); have n3_ := Aside0.mk (below_step (by repeat (first | (with_reducible first | exact HB.out | apply below_alloc | apply pw_below_drewN | apply below_drew1 | refine below_set ?_ GE103.out | refine below_set ?_ GE104.out) | exact HB.out)) hb); have n4_ := Aside0.mk (hbox); have n5_ := Aside0.mk ((by rw [hg]; exact (below_size (by repeat (first | (with_reducible first | exact HB.out | apply below_alloc | apply pw_below_drewN | apply below_drew1 | refine below_set ?_ GE103.out | refine below_set ?_ GE104.out) | exact HB.out))) : w.heap.size ≤ gb106)); have n6_ := Aside0.mk ((by rw [hg]; exact (below_size (by repeat (first | (with_reducible first | exact HB.out | apply below_alloc | apply pw_below_drewN | apply below_drew1 | refine below_set ?_ GE103.out | refine below_set ?_ GE104.out) | exact HB.out))) : w.heap.size ≤ gb106)); have n7_ := Aside0.mk ((by rw [hg]; exact Nat.ne_of_lt (blk_lt (g := gb103) (o := .cells #[.slice none 0 0, .int .i64 0] 26 (0, 0)) (by (with_reducible repeat (first | refine blk_drewN ?_ _ | refine blk_drew ?_ | refine blk_alloc ?_ _)); exact BK103.out)) : gb103 ≠ gb106)); have n8_ := Aside0.mk ((by rw [hg]; exact Nat.ne_of_gt (blk_lt (g := gb103) (o := .cells #[.slice none 0 0, .int .i64 0] 26 (0, 0)) (by (with_reducible repeat (first | refine blk_drewN ?_ _ | refine blk_drew ?_ | refine blk_alloc ?_ _)); exact BK103.out)) : gb106 ≠ gb103)); have n9_ := Aside0.mk ((by rw [hg]; exact Nat.ne_of_lt (blk_lt (g := gb104) (o := .cells #[u105000, .int .i64 x105001_2] 26 (0, 0)) (by (with_reducible repeat (first | refine blk_drewN ?_ _ | refine blk_drew ?_ | refine blk_alloc ?_ _)); exact BK104.out)) : gb104 ≠ gb106)); have n10_ := Aside0.mk ((by rw [hg]; exact Nat.ne_of_gt (blk_lt (g := gb104) (o := .cells #[u105000, .int .i64 x105001_2] 26 (0, 0)) (by (with_reducible repeat (first | refine blk_drewN ?_ _ | refine blk_drew ?_ | refine blk_alloc ?_ _)); exact BK104.out)) : gb106 ≠ gb104)); clear HO_105000; clear BK103; clear BK104; clear HB; have HO_105000 := n0_; have BK103 := n1_; have BK104 := n2_; have HB := n3_; have BK106 := n4_; have GW106 := n5_; have GE106 := n6_; have NB103_106 := n7_; have NB106_103 := n8_; have NB104_106 := n9_; have NB106_104 := n10_; clear n0_ n1_ n2_ n3_ n4_ n5_ n6_ n7_ n8_ n9_ n10_; clear hb hbox hg; have hnb21 := NB106_103.out; have hnc21 := NB103_106.out; have hnb22 := NB106_104.out; have hnc22 := NB104_106.out; have hcz23_0 : w20.cell? ⟨gb106, 0, none⟩ = some (.int .i64 0) := (blk_cell BK106.out 0).trans rfl; have hcz23_1 : w20.cell? ⟨gb106, 1, none⟩ = some (.string (⟨#[]⟩ : ByteArray)) := (blk_cell BK106.out 1).trans rfl; have hxt_0 : (((w20.setCell ⟨gb106, 0, none⟩ (.int .i64 (rd_T43 l0 x6_2).f0)).setCell ⟨gb106, 1, none⟩ (.string (rd_T43 l0 x6_2).f1)).setCell ⟨gb106, 1, none⟩ (.string ((rd_T43 l0 x6_2).f1.extract 0 12))).cell? ⟨gb106, 0, none⟩ = some (.int .i64 (rd_T43 l0 x6_2).f0) := (blk_cell (blk_set (blk_set (blk_set BK106.out 0 (.int .i64 (rd_T43 l0 x6_2).f0)) 1 (.string (rd_T43 l0 x6_2).f1)) 1 (.string ((rd_T43 l0 x6_2).f1.extract 0 12))) 0).trans rfl; have hxt_1 : (((w20.setCell ⟨gb106, 0, none⟩ (.int .i64 (rd_T43 l0 x6_2).f0)).setCell ⟨gb106, 1, none⟩ (.string (rd_T43 l0 x6_2).f1)).setCell ⟨gb106, 1, none⟩ (.string ((rd_T43 l0 x6_2).f1.extract 0 12))).cell? ⟨gb106, 1, none⟩ = some (.string ((rd_T43 l0 x6_2).f1.extract 0 12)) := (blk_cell (blk_set (blk_set (blk_set BK106.out 0 (.int .i64 (rd_T43 l0 x6_2).f0)) 1 (.string (rd_T43 l0 x6_2).f1)) 1 (.string ((rd_T43 l0 x6_2).f1.extract 0 12))) 1).trans rfl; have hfz23_0 := blk_frozen BK106.out 0; have hfz23_1 := blk_frozen BK106.out 1; have hnb24 := NB104_103.out; have hnc24 := NB103_104.out; have hcz25_0 : w20.cell? ⟨gb104, 0, none⟩ = some (u105000) := (blk_cell BK104.out 0).trans rfl; have hcz25_1 : w20.cell? ⟨gb104, 1, none⟩ = some (.int .i64 x105001_2) := (blk_cell BK104.out 1).trans rfl; have hfz25_0 := blk_frozen BK104.out 0; have hfz25_1 := blk_frozen BK104.out 1) | ((with_reducible refine gate_builtin (b := .append) (xs := #[.tmp 36, .tmp 38]) rfl ?_); at_builtin; refine Kd.R_append k43 (w0 := w) w.heap.size rfl (.tmp 36) (.tmp 38) 23 43 (.agg #[(.int .i64 0), (.string ⟨#[]⟩)]) 24 rfl Tryd.underlying23 info43 rfl (by decide) (by omega) u105000 x105000_2 (⟨(rd_T43 l0 x6_2).f0, ((rd_T43 l0 x6_2).f1).extract 0 12⟩ : S43) [.int .i64 ((rd_T43 l0 x6_2).f0), .string (((rd_T43 l0 x6_2).f1).extract 0 12)] (fun k_ => k_ ≠ gb106) (fun _ => False) rfl (by first | (go_simp; done) | (go_simp; rfl)) ?aP (fun _ hk => hk.elim) ?aF ?aO ?aB ?aS ?aL ?_; (case aP => exact k43_mkM _ _ _ (⟨(rd_T43 l0 x6_2).f0, ((rd_T43 l0 x6_2).f1).extract 0 12⟩ : S43)); (case aB => exact (by repeat (first | (with_reducible first | exact HB.out | apply below_alloc | apply pw_below_drewN | apply below_drew1 | refine below_set ?_ GE103.out | refine below_set ?_ GE104.out | refine below_set ?_ GE106.out) | exact HB.out))); (case aF => exact (fun k_ hk => Kd.freshB (g := gb106) (o := .cells #[.int .i64 ((rd_T43 l0 x6_2).f0), .string (((rd_T43 l0 x6_2).f1).extract 0 12)] 43 (0, 0)) (by (with_reducible repeat (first | refine blk_drewN ?_ _ | refine blk_drew ?_ | refine blk_alloc ?_ _)); refine blk_put (cs := #[.int .i64 ((rd_T43 l0 x6_2).f0), .string ((rd_T43 l0 x6_2).f1)]) ?_ 1 _ rfl; (with_reducible repeat (first | refine blk_drewN ?_ _ | refine blk_drew ?_ | refine blk_alloc ?_ _)); refine blk_put (cs := #[.int .i64 ((rd_T43 l0 x6_2).f0), .string (⟨#[]⟩ : ByteArray)]) ?_ 1 _ rfl; (with_reducible repeat (first | refine blk_drewN ?_ _ | refine blk_drew ?_ | refine blk_alloc ?_ _)); refine blk_put (cs := #[.int .i64 0, .string (⟨#[]⟩ : ByteArray)]) ?_ 0 _ rfl; (with_reducible repeat (first | refine blk_drewN ?_ _ | refine blk_drew ?_ | refine blk_alloc ?_ _)); exact BK106.out) k_ hk)); (case aO => exact (by (with_reducible repeat (first | apply Kd.R_alloc | apply Kd.R_drewN | apply Kd.R_drew)); exact Kd.R_mono (Kd.R_far (p := ⟨gb106, 1, none⟩) (Kd.R_far (p := ⟨gb106, 1, none⟩) (Kd.R_far (p := ⟨gb106, 0, none⟩) (Kd.R_mono HO_105000.out (fun k_ hk => (⟨hk, hk.2⟩ : _ ∧ k_ ≠ gb106))) (fun _ hk => hk.2) (.int .i64 ((rd_T43 l0 x6_2).f0))) (fun _ hk => hk.2) (.string ((rd_T43 l0 x6_2).f1))) (fun _ hk => hk.2) (.string (((rd_T43 l0 x6_2).f1).extract 0 12))) (fun _ hk => hk.1.2))); (case aS => exact (below_size (by repeat (first | (with_reducible first | exact HB.out | apply below_alloc | apply pw_below_drewN | apply below_drew1 | refine below_set ?_ GE103.out | refine below_set ?_ GE104.out | refine below_set ?_ GE106.out) | exact HB.out)))); (case aL => have := LMc19.out; omega); intro v108 w26 ho hb hg hat; rw [← Ny107.out] at ho; have n0_ := Aside0.mk (blk_grown (g := gb103) (o := .cells #[.slice none 0 0, .int .i64 0] 26 (0, 0)) (by (with_reducible repeat (first | refine blk_drewN ?_ _ | refine blk_drew ?_ | refine blk_alloc ?_ _)); refine blk_far ?_ NB103_106.out _; (with_reducible repeat (first | refine blk_drewN ?_ _ | refine blk_drew ?_ | refine blk_alloc ?_ _)); refine blk_far ?_ NB103_106.out _; (with_reducible repeat (first | refine blk_drewN ?_ _ | refine blk_drew ?_ | refine blk_alloc ?_ _)); refine blk_far ?_ NB103_106.out _; (with_reducible repeat (first | refine blk_drewN ?_ _ | refine blk_drew ?_ | refine blk_alloc ?_ _)); exact BK103.out) hg (Kd.R_ne HO_105000.out BK103.out (by decide))); have n1_ := Aside0.mk (blk_grown (g := gb104) (o := .cells #[u105000, .int .i64 x105001_2] 26 (0, 0)) (by (with_reducible repeat (first | refine blk_drewN ?_ _ | refine blk_drew ?_ | refine blk_alloc ?_ _)); refine blk_far ?_ NB104_106.out _; (with_reducible repeat (first | refine blk_drewN ?_ _ | refine blk_drew ?_ | refine blk_alloc ?_ _)); refine blk_far ?_ NB104_106.out _; (with_reducible repeat (first | refine blk_drewN ?_ _ | refine blk_drew ?_ | refine blk_alloc ?_ _)); refine blk_far ?_ NB104_106.out _; (with_reducible repeat (first | refine blk_drewN ?_ _ | refine blk_drew ?_ | refine blk_alloc ?_ _)); exact BK104.out) hg (Kd.R_ne HO_105000.out BK104.out (by decide))); have n2_ := Aside0.mk (blk_grown (g := gb106) (o := .cells #[.int .i64 ((rd_T43 l0 x6_2).f0), .string (((rd_T43 l0 x6_2).f1).extract 0 12)] 43 (0, 0)) (by (with_reducible repeat (first | refine blk_drewN ?_ _ | refine blk_drew ?_ | refine blk_alloc ?_ _)); refine blk_put (cs := #[.int .i64 ((rd_T43 l0 x6_2).f0), .string ((rd_T43 l0 x6_2).f1)]) ?_ 1 _ rfl; (with_reducible repeat (first | refine blk_drewN ?_ _ | refine blk_drew ?_ | refine blk_alloc ?_ _)); refine blk_put (cs := #[.int .i64 ((rd_T43 l0 x6_2).f0), .string (⟨#[]⟩ : ByteArray)]) ?_ 1 _ rfl; (with_reducible repeat (first | refine blk_drewN ?_ _ | refine blk_drew ?_ | refine blk_alloc ?_ _)); refine blk_put (cs := #[.int .i64 0, .string (⟨#[]⟩ : ByteArray)]) ?_ 0 _ rfl; (with_reducible repeat (first | refine blk_drewN ?_ _ | refine blk_drew ?_ | refine blk_alloc ?_ _)); exact BK106.out) hg (Kd.R_away HO_105000.out (fun _ hk => hk.2))); have n3_ := Aside0.mk (hb); have n4_ := Aside0.mk (ho); clear BK103; clear BK104; clear BK106; clear HB; clear HO_105000; have BK103 := n0_; have BK104 := n1_; have BK106 := n2_; have HB := n3_; have HO109 := n4_; clear n0_ n1_ n2_ n3_ n4_; clear ho hb hg hat; obtain ⟨Ao27, co27, eo27⟩ := Kd.R_slice HO109.out; subst eo27; have hcz28_0 : w26.cell? ⟨gb104, 0, none⟩ = some (u105000) := (blk_cell BK104.out 0).trans rfl; have hcz28_1 : w26.cell? ⟨gb104, 1, none⟩ = some (.int .i64 x105001_2) := (blk_cell BK104.out 1).trans rfl; have hfz28_0 := blk_frozen BK104.out 0; have hfz28_1 := blk_frozen BK104.out 1))
              go_roundg kj10
              case measure => have := HJ2.out; have := HK2.out; have := HJ10.out; omega
              case rel => exact ⟨(wrap64 (x6_2 + 1)), (y107), (.slice Ao27 y107.length co27), (by first | rfl | (simp; done) | (simp [*]; done)), H', ⟨by have := HJ2.out; have := HK2.out; have := HJ10.out; omega⟩, ⟨by (with_reducible repeat (first | apply Kd.R_alloc | apply Kd.R_drewN | apply Kd.R_drew)); exact Kd.R_mono (Kd.R_far (p := ⟨gb104, 0, none⟩) (Kd.R_types HO109.out BK104.out (by decide)) (fun _ hk => hk.2) (.slice Ao27 y107.length co27)) (fun _ hk => trivial)⟩, ⟨by (with_reducible repeat (first | refine blk_drewN ?_ _ | refine blk_drew ?_ | refine blk_alloc ?_ _)); refine blk_far ?_ NB103_104.out _; (with_reducible repeat (first | refine blk_drewN ?_ _ | refine blk_drew ?_ | refine blk_alloc ?_ _)); exact BK103.out⟩, ⟨by (with_reducible repeat (first | refine blk_drewN ?_ _ | refine blk_drew ?_ | refine blk_alloc ?_ _)); refine blk_put (cs := #[u105000, .int .i64 x105001_2]) ?_ 0 _ rfl; (with_reducible repeat (first | refine blk_drewN ?_ _ | refine blk_drew ?_ | refine blk_alloc ?_ _)); exact BK104.out⟩, ⟨by repeat (first | (with_reducible first | exact HB.out | apply below_alloc | apply pw_below_drewN | apply below_drew1 | refine below_set ?_ GE103.out | refine below_set ?_ GE104.out | refine below_set ?_ GE106.out) | exact HB.out)⟩⟩
             ·rw [if_neg c19] at H
              exact absurd H (by simp)
            ·rw [if_neg c18] at H
             exact absurd H (by simp)
           ·rw [if_neg c17] at H
            exact absurd H (by simp)
          ·rw [if_neg c16] at H
           have c16b0 : decide (12 < (((rd_T43 l0 x6_2).f1).size : Int)) = false := decide_eq_false c16
           have c16b1 : decide (12 < ((rd_T43 l0 x6_2).f1).size) = false := decide_eq_false (by omega)
           clear c16
           by_cases c29 : x105000_2.length < 5864062014805
           ·rw [if_pos c29] at H
            have LMc29 := Aside0.mk c29
            clear c29
            obtain ⟨y110, hy110⟩ : ∃ y_ : List (S43), y_ = (x105000_2 ++ [(⟨(rd_T43 l0 x6_2).f0, (rd_T43 l0 x6_2).f1⟩ : S43)]) := ⟨_, rfl⟩
            replace H : (isoglosslaw01_row.l0 kj10 l0 (wrap64 (x6_2 + 1)) y110 x105001_2) = some (r1, r2) := by first | (rw [hy110]; with_reducible exact H) | (have H2_ := (Option.bind_some _ _).symm.trans H; rw [hy110]; with_reducible exact H2_) | (have H2_ := (Option.bind_some _ _).symm.trans H; with_reducible exact H2_) | with_reducible exact H | (rw [hy110]; exact H) | exact H
            have Ny110 := Aside0.mk hy110
            clear hy110
            have H' := Aside0.mk H
            clear H
            have p105 : 0 ≤ (x6_2 : Int) := of_decide_eq_true (by first | (with_reducible assumption) | assumption)
            have q105 : x6_2 < (l0.length : Int) := of_decide_eq_true (by first | (with_reducible assumption) | assumption)
            obtain ⟨ad105, e105, hx105_0, hx105_1⟩ := at_T43 HR0.out x6_2 p105 q105
            cases e105
            replace hx105_0 := (HB.out.cell (World.block_lt_of_cell? w _ hx105_0)).trans hx105_0
            replace hx105_1 := (HB.out.cell (World.block_lt_of_cell? w _ hx105_1)).trans hx105_1
            replace p105 := eq_true p105
            replace q105 := eq_true q105
            go_wp2_with (first | ((with_reducible refine gate_dst (N := 7) rfl ?_); refine box_event ?hg (N := 7) ?hd (cs := #[.int .i64 0, .string (⟨#[]⟩ : ByteArray)]) (t := 43) ?hr ?_; (case hd => rfl); (case hg => rfl); (case hr => first | (go_simp; done) | (go_simp; rfl)); intro gb106 hg w30 hbox hb; have n0_ := Aside0.mk (Kd.R_below (Kd.R_elderB (by (with_reducible repeat (first | apply Kd.R_alloc | apply Kd.R_drewN | apply Kd.R_drew)); exact HO_105000.out) gb106 (Nat.le_of_eq hg.symm)) hb); have n1_ := Aside0.mk (blk_below (g := gb103) (o := .cells #[.slice none 0 0, .int .i64 0] 26 (0, 0)) (by (with_reducible repeat (first | refine blk_drewN ?_ _ | refine blk_drew ?_ | refine blk_alloc ?_ _)); exact BK103.out) hb); have n2_ := Aside0.mk (blk_below (g := gb104) (o := .cells #[u105000, .int .i64 x105001_2] 26 (0, 0)) (by (with_reducible repeat (first | refine blk_drewN ?_ _ | refine blk_drew ?_ | refine blk_alloc ?_ _)); exact BK104.out) hb); have n3_ := Aside0.mk (below_step (by repeat (first | (with_reducible first | exact HB.out | apply below_alloc | apply pw_below_drewN | apply below_drew1 | refine below_set ?_ GE103.out | refine below_set ?_ GE104.out) | exact HB.out)) hb); have n4_ := Aside0.mk (hbox); have n5_ := Aside0.mk ((by rw [hg]; exact (below_size (by repeat (first | (with_reducible first | exact HB.out | apply below_alloc | apply pw_below_drewN | apply below_drew1 | refine below_set ?_ GE103.out | refine below_set ?_ GE104.out) | exact HB.out))) : w.heap.size ≤ gb106)); have n6_ := Aside0.mk ((by rw [hg]; exact (below_size (by repeat (first | (with_reducible first | exact HB.out | apply below_alloc | apply pw_below_drewN | apply below_drew1 | refine below_set ?_ GE103.out | refine below_set ?_ GE104.out) | exact HB.out))) : w.heap.size ≤ gb106)); have n7_ := Aside0.mk ((by rw [hg]; exact Nat.ne_of_lt (blk_lt (g := gb103) (o := .cells #[.slice none 0 0, .int .i64 0] 26 (0, 0)) (by (with_reducible repeat (first | refine blk_drewN ?_ _ | refine blk_drew ?_ | refine blk_alloc ?_ _)); exact BK103.out)) : gb103 ≠ gb106)); have n8_ := Aside0.mk ((by rw [hg]; exact Nat.ne_of_gt (blk_lt (g := gb103) (o := .cells #[.slice none 0 0, .int .i64 0] 26 (0, 0)) (by (with_reducible repeat (first | refine blk_drewN ?_ _ | refine blk_drew ?_ | refine blk_alloc ?_ _)); exact BK103.out)) : gb106 ≠ gb103)); have n9_ := Aside0.mk ((by rw [hg]; exact Nat.ne_of_lt (blk_lt (g := gb104) (o := .cells #[u105000, .int .i64 x105001_2] 26 (0, 0)) (by (with_reducible repeat (first | refine blk_drewN ?_ _ | refine blk_drew ?_ | refine blk_alloc ?_ _)); exact BK104.out)) : gb104 ≠ gb106)); have n10_ := Aside0.mk ((by rw [hg]; exact Nat.ne_of_gt (blk_lt (g := gb104) (o := .cells #[u105000, .int .i64 x105001_2] 26 (0, 0)) (by (with_reducible repeat (first | refine blk_drewN ?_ _ | refine blk_drew ?_ | refine blk_alloc ?_ _)); exact BK104.out)) : gb106 ≠ gb104)); clear HO_105000; clear BK103; clear BK104; clear HB; have HO_105000 := n0_; have BK103 := n1_; have BK104 := n2_; have HB := n3_; have BK106 := n4_; have GW106 := n5_; have GE106 := n6_; have NB103_106 := n7_; have NB106_103 := n8_; have NB104_106 := n9_; have NB106_104 := n10_; clear n0_ n1_ n2_ n3_ n4_ n5_ n6_ n7_ n8_ n9_ n10_; clear hb hbox hg; have hnb31 := NB106_103.out; have hnc31 := NB103_106.out; have hnb32 := NB106_104.out; have hnc32 := NB104_106.out; have hcz33_0 : w30.cell? ⟨gb106, 0, none⟩ = some (.int .i64 0) := (blk_cell BK106.out 0).trans rfl; have hcz33_1 : w30.cell? ⟨gb106, 1, none⟩ = some (.string (⟨#[]⟩ : ByteArray)) := (blk_cell BK106.out 1).trans rfl; have hxt_0 : (((w30.setCell ⟨gb106, 0, none⟩ (.int .i64 (rd_T43 l0 x6_2).f0)).setCell ⟨gb106, 1, none⟩ (.string (rd_T43 l0 x6_2).f1)).setCell ⟨gb106, 1, none⟩ (.string ((rd_T43 l0 x6_2).f1.extract 0 12))).cell? ⟨gb106, 0, none⟩ = some (.int .i64 (rd_T43 l0 x6_2).f0) := (blk_cell (blk_set (blk_set (blk_set BK106.out 0 (.int .i64 (rd_T43 l0 x6_2).f0)) 1 (.string (rd_T43 l0 x6_2).f1)) 1 (.string ((rd_T43 l0 x6_2).f1.extract 0 12))) 0).trans rfl; have hxt_1 : (((w30.setCell ⟨gb106, 0, none⟩ (.int .i64 (rd_T43 l0 x6_2).f0)).setCell ⟨gb106, 1, none⟩ (.string (rd_T43 l0 x6_2).f1)).setCell ⟨gb106, 1, none⟩ (.string ((rd_T43 l0 x6_2).f1.extract 0 12))).cell? ⟨gb106, 1, none⟩ = some (.string ((rd_T43 l0 x6_2).f1.extract 0 12)) := (blk_cell (blk_set (blk_set (blk_set BK106.out 0 (.int .i64 (rd_T43 l0 x6_2).f0)) 1 (.string (rd_T43 l0 x6_2).f1)) 1 (.string ((rd_T43 l0 x6_2).f1.extract 0 12))) 1).trans rfl; have hfz33_0 := blk_frozen BK106.out 0; have hfz33_1 := blk_frozen BK106.out 1; have hnb34 := NB104_103.out; have hnc34 := NB103_104.out; have hcz35_0 : w30.cell? ⟨gb104, 0, none⟩ = some (u105000) := (blk_cell BK104.out 0).trans rfl; have hcz35_1 : w30.cell? ⟨gb104, 1, none⟩ = some (.int .i64 x105001_2) := (blk_cell BK104.out 1).trans rfl; have hfz35_0 := blk_frozen BK104.out 0; have hfz35_1 := blk_frozen BK104.out 1) | ((with_reducible refine gate_builtin (b := .append) (xs := #[.tmp 36, .tmp 38]) rfl ?_); at_builtin; refine Kd.R_append k43 (w0 := w) w.heap.size rfl (.tmp 36) (.tmp 38) 23 43 (.agg #[(.int .i64 0), (.string ⟨#[]⟩)]) 24 rfl Tryd.underlying23 info43 rfl (by decide) (by omega) u105000 x105000_2 (⟨(rd_T43 l0 x6_2).f0, (rd_T43 l0 x6_2).f1⟩ : S43) [.int .i64 ((rd_T43 l0 x6_2).f0), .string ((rd_T43 l0 x6_2).f1)] (fun k_ => k_ ≠ gb106) (fun _ => False) rfl (by first | (go_simp; done) | (go_simp; rfl)) ?aP (fun _ hk => hk.elim) ?aF ?aO ?aB ?aS ?aL ?_; (case aP => exact k43_mkM _ _ _ (⟨(rd_T43 l0 x6_2).f0, (rd_T43 l0 x6_2).f1⟩ : S43)); (case aB => exact (by repeat (first | (with_reducible first | exact HB.out | apply below_alloc | apply pw_below_drewN | apply below_drew1 | refine below_set ?_ GE103.out | refine below_set ?_ GE104.out | refine below_set ?_ GE106.out) | exact HB.out))); (case aF => exact (fun k_ hk => Kd.freshB (g := gb106) (o := .cells #[.int .i64 ((rd_T43 l0 x6_2).f0), .string ((rd_T43 l0 x6_2).f1)] 43 (0, 0)) (by (with_reducible repeat (first | refine blk_drewN ?_ _ | refine blk_drew ?_ | refine blk_alloc ?_ _)); refine blk_put (cs := #[.int .i64 ((rd_T43 l0 x6_2).f0), .string (⟨#[]⟩ : ByteArray)]) ?_ 1 _ rfl; (with_reducible repeat (first | refine blk_drewN ?_ _ | refine blk_drew ?_ | refine blk_alloc ?_ _)); refine blk_put (cs := #[.int .i64 0, .string (⟨#[]⟩ : ByteArray)]) ?_ 0 _ rfl; (with_reducible repeat (first | refine blk_drewN ?_ _ | refine blk_drew ?_ | refine blk_alloc ?_ _)); exact BK106.out) k_ hk)); (case aO => exact (by (with_reducible repeat (first | apply Kd.R_alloc | apply Kd.R_drewN | apply Kd.R_drew)); exact Kd.R_mono (Kd.R_far (p := ⟨gb106, 1, none⟩) (Kd.R_far (p := ⟨gb106, 0, none⟩) (Kd.R_mono HO_105000.out (fun k_ hk => (⟨hk, hk.2⟩ : _ ∧ k_ ≠ gb106))) (fun _ hk => hk.2) (.int .i64 ((rd_T43 l0 x6_2).f0))) (fun _ hk => hk.2) (.string ((rd_T43 l0 x6_2).f1))) (fun _ hk => hk.1.2))); (case aS => exact (below_size (by repeat (first | (with_reducible first | exact HB.out | apply below_alloc | apply pw_below_drewN | apply below_drew1 | refine below_set ?_ GE103.out | refine below_set ?_ GE104.out | refine below_set ?_ GE106.out) | exact HB.out)))); (case aL => have := LMc29.out; omega); intro v111 w36 ho hb hg hat; rw [← Ny110.out] at ho; have n0_ := Aside0.mk (blk_grown (g := gb103) (o := .cells #[.slice none 0 0, .int .i64 0] 26 (0, 0)) (by (with_reducible repeat (first | refine blk_drewN ?_ _ | refine blk_drew ?_ | refine blk_alloc ?_ _)); refine blk_far ?_ NB103_106.out _; (with_reducible repeat (first | refine blk_drewN ?_ _ | refine blk_drew ?_ | refine blk_alloc ?_ _)); refine blk_far ?_ NB103_106.out _; (with_reducible repeat (first | refine blk_drewN ?_ _ | refine blk_drew ?_ | refine blk_alloc ?_ _)); exact BK103.out) hg (Kd.R_ne HO_105000.out BK103.out (by decide))); have n1_ := Aside0.mk (blk_grown (g := gb104) (o := .cells #[u105000, .int .i64 x105001_2] 26 (0, 0)) (by (with_reducible repeat (first | refine blk_drewN ?_ _ | refine blk_drew ?_ | refine blk_alloc ?_ _)); refine blk_far ?_ NB104_106.out _; (with_reducible repeat (first | refine blk_drewN ?_ _ | refine blk_drew ?_ | refine blk_alloc ?_ _)); refine blk_far ?_ NB104_106.out _; (with_reducible repeat (first | refine blk_drewN ?_ _ | refine blk_drew ?_ | refine blk_alloc ?_ _)); exact BK104.out) hg (Kd.R_ne HO_105000.out BK104.out (by decide))); have n2_ := Aside0.mk (blk_grown (g := gb106) (o := .cells #[.int .i64 ((rd_T43 l0 x6_2).f0), .string ((rd_T43 l0 x6_2).f1)] 43 (0, 0)) (by (with_reducible repeat (first | refine blk_drewN ?_ _ | refine blk_drew ?_ | refine blk_alloc ?_ _)); refine blk_put (cs := #[.int .i64 ((rd_T43 l0 x6_2).f0), .string (⟨#[]⟩ : ByteArray)]) ?_ 1 _ rfl; (with_reducible repeat (first | refine blk_drewN ?_ _ | refine blk_drew ?_ | refine blk_alloc ?_ _)); refine blk_put (cs := #[.int .i64 0, .string (⟨#[]⟩ : ByteArray)]) ?_ 0 _ rfl; (with_reducible repeat (first | refine blk_drewN ?_ _ | refine blk_drew ?_ | refine blk_alloc ?_ _)); exact BK106.out) hg (Kd.R_away HO_105000.out (fun _ hk => hk.2))); have n3_ := Aside0.mk (hb); have n4_ := Aside0.mk (ho); clear BK103; clear BK104; clear BK106; clear HB; clear HO_105000; have BK103 := n0_; have BK104 := n1_; have BK106 := n2_; have HB := n3_; have HO112 := n4_; clear n0_ n1_ n2_ n3_ n4_; clear ho hb hg hat; obtain ⟨Ao37, co37, eo37⟩ := Kd.R_slice HO112.out; subst eo37; have hcz38_0 : w36.cell? ⟨gb104, 0, none⟩ = some (u105000) := (blk_cell BK104.out 0).trans rfl; have hcz38_1 : w36.cell? ⟨gb104, 1, none⟩ = some (.int .i64 x105001_2) := (blk_cell BK104.out 1).trans rfl; have hfz38_0 := blk_frozen BK104.out 0; have hfz38_1 := blk_frozen BK104.out 1))
            go_roundg kj10
            case measure => have := HJ2.out; have := HK2.out; have := HJ10.out; omega
            case rel => exact ⟨(wrap64 (x6_2 + 1)), (y110), (.slice Ao37 y110.length co37), (by first | rfl | (simp; done) | (simp [*]; done)), H', ⟨by have := HJ2.out; have := HK2.out; have := HJ10.out; omega⟩, ⟨by (with_reducible repeat (first | apply Kd.R_alloc | apply Kd.R_drewN | apply Kd.R_drew)); exact Kd.R_mono (Kd.R_far (p := ⟨gb104, 0, none⟩) (Kd.R_types HO112.out BK104.out (by decide)) (fun _ hk => hk.2) (.slice Ao37 y110.length co37)) (fun _ hk => trivial)⟩, ⟨by (with_reducible repeat (first | refine blk_drewN ?_ _ | refine blk_drew ?_ | refine blk_alloc ?_ _)); refine blk_far ?_ NB103_104.out _; (with_reducible repeat (first | refine blk_drewN ?_ _ | refine blk_drew ?_ | refine blk_alloc ?_ _)); exact BK103.out⟩, ⟨by (with_reducible repeat (first | refine blk_drewN ?_ _ | refine blk_drew ?_ | refine blk_alloc ?_ _)); refine blk_put (cs := #[u105000, .int .i64 x105001_2]) ?_ 0 _ rfl; (with_reducible repeat (first | refine blk_drewN ?_ _ | refine blk_drew ?_ | refine blk_alloc ?_ _)); exact BK104.out⟩, ⟨by repeat (first | (with_reducible first | exact HB.out | apply below_alloc | apply pw_below_drewN | apply below_drew1 | refine below_set ?_ GE103.out | refine below_set ?_ GE104.out | refine below_set ?_ GE106.out) | exact HB.out)⟩⟩
           ·rw [if_neg c29] at H
            exact absurd H (by simp)
         ·rw [if_neg c15] at H
          exact absurd H (by simp)
        ·rw [if_neg c14] at H
         exact absurd H (by simp)
       ·replace c13 := Bool.eq_false_iff.mpr c13
        subst c13
        have H1 : (some (x105000_2, x105001_2)) = some (r1, r2) := by rw [if_neg (show ¬ (false = true) by decide)] at H; exact H
        clear H
        have H := H1
        clear H1
        simp only [Option.some.injEq, Prod.mk.injEq] at H
        obtain ⟨rfl, rfl⟩ := H
        have hnb39 := NB104_103.out
        have hnc39 := NB103_104.out
        have hcz40_0 : wc.cell? ⟨gb104, 0, none⟩ = some (u105000) := (blk_cell BK104.out 0).trans rfl
        have hcz40_1 : wc.cell? ⟨gb104, 1, none⟩ = some (.int .i64 x105001_2) := (blk_cell BK104.out 1).trans rfl
        have hfz40_0 := blk_frozen BK104.out 0
        have hfz40_1 := blk_frozen BK104.out 1
        obtain ⟨Ao41, co41, eo41⟩ := Kd.R_slice HO_105000.out
        subst eo41
        have hcz42_0 : wc.cell? ⟨gb103, 0, none⟩ = some (.slice none 0 0) := (blk_cell BK103.out 0).trans rfl
        have hcz42_1 : wc.cell? ⟨gb103, 1, none⟩ = some (.int .i64 0) := (blk_cell BK103.out 1).trans rfl
        have hfz42_0 := blk_frozen BK103.out 0
        have hfz42_1 := blk_frozen BK103.out 1
        go_wp2
        refine bodyPost_ret (results_cell_row rfl _ _ gb103 26 #[.slice Ao41 x105000_2.length co41, .int .i64 x105001_2] (0, 0) _ rfl (by (with_reducible repeat (first | refine blk_drewN ?_ _ | refine blk_drew ?_ | refine blk_alloc ?_ _)); refine blk_put (cs := #[.slice Ao41 x105000_2.length co41, .int .i64 0]) ?_ 1 _ rfl; (with_reducible repeat (first | refine blk_drewN ?_ _ | refine blk_drew ?_ | refine blk_alloc ?_ _)); refine blk_put (cs := #[.slice none 0 0, .int .i64 0]) ?_ 0 _ rfl; (with_reducible repeat (first | refine blk_drewN ?_ _ | refine blk_drew ?_ | refine blk_alloc ?_ _)); exact BK103.out) Tryd.underlying26 rfl (by kernel_rfl)) rfl ?_
        exact ⟨_, by first | rfl | (simp [errW_none, errW_some] <;> rfl) | (simp [*, errW_none, errW_some] <;> rfl), by (with_reducible repeat (first | apply Kd.R_alloc | apply Kd.R_drewN | apply Kd.R_drew)); exact Kd.R_mono (Kd.R_far (p := ⟨gb103, 1, none⟩) (Kd.R_far (p := ⟨gb103, 0, none⟩) (Kd.R_types HO_105000.out BK103.out (by decide)) (fun _ hk => hk.2) (.slice Ao41 x105000_2.length co41)) (fun _ hk => hk.2) (.int .i64 x105001_2)) (fun _ hk => trivial), by repeat (first | (with_reducible first | exact HB.out | apply below_alloc | apply pw_below_drewN | apply below_drew1 | refine below_set ?_ GE103.out | refine below_set ?_ GE104.out) | exact HB.out)⟩

end Go.Proofs.YtlngefnimnjkkaaDoor.P
