-- Written for this claim by the session's own run of the print, functions proved by hand put in.
import Derived.Test.YtojglflamecnkaaPx0
import Derived.Test.YtojglflamecnkaaPx11
import Derived.Test.YtojglflamecnkaaPx12
import Derived.Test.YtojglflamecnkaaPx21
namespace Go.Proofs.Ytojglflamecnkaa.P
open Go.RowKit Go.Proofs.YtojglflamecnkaaW.PrintWords Go.Proofs.YtojglflamecnkaaW.PrintLast Go.Proofs.YtojglflamecnkaaW.PrintMore
attribute [local go_sem] max2_int min2_int max_two min_two max_three min_three max_four min_four   -- for this text's walks alone
set_option linter.unusedVariables false
set_option linter.unusedSimpArgs false
mutual
def isoglossref08_Short.j1 : Nat → List ByteArray → Int → Option (ByteArray)
 | 0, _, _ => none
 | k + 1, x5, x6 => isoglossref08_Short.l1 k x5 x6
def isoglossref08_Short.l1 : Nat → List ByteArray → Int → Option (ByteArray)
 | 0, _, _ => none
 | k + 1, x5, x6 => if x6 > 1 then (if 0 ≤ (wrap64 (x6 - 1)) then (if (wrap64 (x6 - 1)) < (x5.length : Int) then (if ((rdOf ByteArray.empty x5 (wrap64 (x6 - 1))).size : Int) = 1 then (isoglossref08_Short.l1 k x5 (wrap64 (x6 - 1))) else (if 0 ≤ x6 then (if x6 ≤ (x5.length : Int) then ((isoglossref04_Join.f k (x5.take (x6 : Int).toNat)).bind fun t529 => ((isoglossref08_Case.f k t529).bind fun t530 => (some t530))) else (none)) else (none))) else (none)) else (none)) else (if 0 ≤ x6 then (if x6 ≤ (x5.length : Int) then ((isoglossref04_Join.f k (x5.take (x6 : Int).toNat)).bind fun t535 => ((isoglossref08_Case.f k t535).bind fun t536 => (some t536))) else (none)) else (none))
def isoglossref08_Short.l0 : Nat → Int → List ByteArray → Int → Option (ByteArray)
 | 0, _, _, _ => none
 | k + 1, x1, x5, x6 => if x6 < (x5.length : Int) then (if 0 ≤ (wrap64 (x6 + 1)) then (if (wrap64 (x6 + 1)) ≤ (x5.length : Int) then ((isoglossref04_Join.f k (x5.take ((wrap64 (x6 + 1)) : Int).toNat)).bind fun t523 => (if (t523.size : Int) ≤ x1 then (isoglossref08_Short.l0 k x1 x5 (wrap64 (x6 + 1))) else (isoglossref08_Short.j1 k x5 x6))) else (none)) else (none)) else (isoglossref08_Short.j1 k x5 x6)
end
def isoglossref08_Short.f (k : Nat) (a0_0 : ByteArray) (l0_1 : List ByteArray) (a0_2 : ByteArray) (a0_3 : ByteArray) (l0_4 : List ByteArray) (l0_5 : List (S62)) (l0_6 : List ByteArray) (a0_7 : ByteArray) (a1 : Int) : Option (ByteArray) := (isoglossref06_Subtags.f k a0_0 l0_1 a0_2 a0_3 l0_4 l0_5 l0_6 a0_7).bind fun t516 => (isoglossref08_Short.l0 k a1 t516 0)
set_option maxHeartbeats 8000000 in
set_option maxRecDepth 100000 in
theorem isoglossref08_Short.calls (k : Nat) (a0_0 : ByteArray) (A0_1 : Option Addr) (c0_1 : Nat) (l0_1 : List ByteArray) (a0_2 : ByteArray) (a0_3 : ByteArray) (A0_4 : Option Addr) (c0_4 : Nat) (l0_4 : List ByteArray) (A0_5 : Option Addr) (c0_5 : Nat) (l0_5 : List (S62)) (A0_6 : Option Addr) (c0_6 : Nat) (l0_6 : List ByteArray) (a0_7 : ByteArray) (a1 : Int) (r : ByteArray) (w : World) (hr0_1 : Kd.C Kd.string w A0_1 l0_1.length l0_1) (hc0_1 : l0_1.length ≤ c0_1) (hr0_4 : Kd.C Kd.string w A0_4 l0_4.length l0_4) (hc0_4 : l0_4.length ≤ c0_4) (hr0_5 : Kd.C k62 w A0_5 l0_5.length l0_5) (hc0_5 : l0_5.length ≤ c0_5) (hr0_6 : Kd.C Kd.string w A0_6 l0_6.length l0_6) (hc0_6 : l0_6.length ≤ c0_6) (h : isoglossref08_Short.f k a0_0 l0_1 a0_2 a0_3 l0_4 l0_5 l0_6 a0_7 a1 = some r) :
  Calls Try.prog 26 #[.agg #[.string a0_0, .slice A0_1 l0_1.length c0_1, .string a0_2, .string a0_3, .slice A0_4 l0_4.length c0_4, .slice A0_5 l0_5.length c0_5, .slice A0_6 l0_6.length c0_6, .string a0_7], .int .i64 a1] w fun e w' => e = .returned (.string r) ∧ Below w.heap.size w w' := by
 have hu34 := Try.underlying34
 have HR0_1 := Aside0.mk hr0_1
 have HC0_1 := Aside0.mk hc0_1
 clear hr0_1 hc0_1
 have HR0_4 := Aside0.mk hr0_4
 have HC0_4 := Aside0.mk hc0_4
 clear hr0_4 hc0_4
 have HR0_5 := Aside0.mk hr0_5
 have HC0_5 := Aside0.mk hc0_5
 clear hr0_5 hc0_5
 have HR0_6 := Aside0.mk hr0_6
 have HC0_6 := Aside0.mk hc0_6
 clear hr0_6 hc0_6
 have HB := Aside0.mk (Below.refl w.heap.size w)
 have H : ((isoglossref06_Subtags.f k a0_0 l0_1 a0_2 a0_3 l0_4 l0_5 l0_6 a0_7).bind fun t516 => (isoglossref08_Short.l0 k a1 t516 0)) = some r := h
 clear h
 replace H := Option.bind_eq_some_iff.mp H
 obtain ⟨t516, A30, H⟩ := H
 replace H : (isoglossref08_Short.l0 k a1 t516 0) = some r := H
 have A3 := Aside0.mk A30
 clear A30
 have HC4 := Aside0.mk H
 clear H
 go_enter Try.func26, Try.ntmps26
 go_upto_block 0 with (first | ((with_reducible refine gate_dst (N := 2) rfl ?_); (try (refine gate_guard (by rfl) ?_; dsimp only)); refine box_event ?hg (N := 2) ?hd (cs := #[.string a0_0, .slice A0_1 l0_1.length c0_1, .string a0_2, .string a0_3, .slice A0_4 l0_4.length c0_4, .slice A0_5 l0_5.length c0_5, .slice A0_6 l0_6.length c0_6, .string a0_7]) (t := 34) ?hr ?_; (case hd => rfl); (case hg => rfl); (case hr => first | (go_simp; done) | (go_simp; rfl)); intro gb515 hg w5 hbox hb; have n0_ := Aside0.mk (below_step (by repeat (first | (with_reducible first | exact HB.out | apply below_alloc | apply pw_below_drewN | apply below_drew1) | exact HB.out)) hb); have n1_ := Aside0.mk (hbox); have n2_ := Aside0.mk ((by rw [hg]; exact (below_size (by repeat (first | (with_reducible first | exact HB.out | apply below_alloc | apply pw_below_drewN | apply below_drew1) | exact HB.out))) : w.heap.size ≤ gb515)); have n3_ := Aside0.mk ((by rw [hg]; exact (below_size (by repeat (first | (with_reducible first | exact HB.out | apply below_alloc | apply pw_below_drewN | apply below_drew1) | exact HB.out))) : w.heap.size ≤ gb515)); clear HB; have HB := n0_; have BK515 := n1_; have GW515 := n2_; have GE515 := n3_; clear n0_ n1_ n2_ n3_; clear hb hbox hg; have hcz6_0 : w5.cell? ⟨gb515, 0, none⟩ = some (.string a0_0) := (blk_cell BK515.out 0).trans rfl; have hcz6_1 : w5.cell? ⟨gb515, 1, none⟩ = some (.slice A0_1 l0_1.length c0_1) := (blk_cell BK515.out 1).trans rfl; have hcz6_2 : w5.cell? ⟨gb515, 2, none⟩ = some (.string a0_2) := (blk_cell BK515.out 2).trans rfl; have hcz6_3 : w5.cell? ⟨gb515, 3, none⟩ = some (.string a0_3) := (blk_cell BK515.out 3).trans rfl; have hcz6_4 : w5.cell? ⟨gb515, 4, none⟩ = some (.slice A0_4 l0_4.length c0_4) := (blk_cell BK515.out 4).trans rfl; have hcz6_5 : w5.cell? ⟨gb515, 5, none⟩ = some (.slice A0_5 l0_5.length c0_5) := (blk_cell BK515.out 5).trans rfl; have hcz6_6 : w5.cell? ⟨gb515, 6, none⟩ = some (.slice A0_6 l0_6.length c0_6) := (blk_cell BK515.out 6).trans rfl; have hcz6_7 : w5.cell? ⟨gb515, 7, none⟩ = some (.string a0_7) := (blk_cell BK515.out 7).trans rfl; have hfz6_0 := blk_frozen BK515.out 0; have hfz6_1 := blk_frozen BK515.out 1; have hfz6_2 := blk_frozen BK515.out 2; have hfz6_3 := blk_frozen BK515.out 3; have hfz6_4 := blk_frozen BK515.out 4; have hfz6_5 := blk_frozen BK515.out 5; have hfz6_6 := blk_frozen BK515.out 6; have hfz6_7 := blk_frozen BK515.out 7) | ((with_reducible refine gate_callee (f := 22) rfl ?_); refine goesL_ (some 8) rfl rfl Try.func22 (by kernel_rfl) rfl #[.agg #[.string a0_0, .slice A0_1 l0_1.length c0_1, .string a0_2, .string a0_3, .slice A0_4 l0_4.length c0_4, .slice A0_5 l0_5.length c0_5, .slice A0_6 l0_6.length c0_6, .string a0_7]] rfl (by (try simp only [List.map_toArray, List.map_cons, List.map_nil]); first | done | rfl | (simp only [List.length_drop, List.length_take]; rfl)) ?_; (with_reducible refine (isoglossref06_Subtags.calls k a0_0 _ _ l0_1 a0_2 a0_3 _ _ l0_4 _ _ l0_5 _ _ l0_6 a0_7 t516 _ ?side1 ?side2 ?side3 ?side4 ?side5 ?side6 ?side7 ?side8 A3.out).mono ?_); (case side1 => repeat (first | exact (Kd.C_below HR0_1.out HB.out) | (with_reducible refine Kd.C_alloc ?_ _) | (with_reducible refine Kd.C_drewN ?_ _) | (with_reducible refine Kd.C_drew ?_))); (case side2 => exact HC0_1.out); (case side3 => repeat (first | exact (Kd.C_below HR0_4.out HB.out) | (with_reducible refine Kd.C_alloc ?_ _) | (with_reducible refine Kd.C_drewN ?_ _) | (with_reducible refine Kd.C_drew ?_))); (case side4 => exact HC0_4.out); (case side5 => repeat (first | exact (Kd.C_below HR0_5.out HB.out) | (with_reducible refine Kd.C_alloc ?_ _) | (with_reducible refine Kd.C_drewN ?_ _) | (with_reducible refine Kd.C_drew ?_))); (case side6 => exact HC0_5.out); (case side7 => repeat (first | exact (Kd.C_below HR0_6.out HB.out) | (with_reducible refine Kd.C_alloc ?_ _) | (with_reducible refine Kd.C_drewN ?_ _) | (with_reducible refine Kd.C_drew ?_))); (case side8 => exact HC0_6.out); rintro e w7 ⟨v517, rfl, ho0, hb⟩; refine ⟨_, rfl, ?_⟩; have n0_ := Aside0.mk (Kd.R_lower ho0 (below_size (by repeat (first | (with_reducible first | exact HB.out | apply below_alloc | apply pw_below_drewN | apply below_drew1 | refine below_set ?_ GE515.out) | exact HB.out)))); have n1_ := Aside0.mk (blk_below (g := gb515) (o := .cells #[.string a0_0, .slice A0_1 l0_1.length c0_1, .string a0_2, .string a0_3, .slice A0_4 l0_4.length c0_4, .slice A0_5 l0_5.length c0_5, .slice A0_6 l0_6.length c0_6, .string a0_7] 34 (0, 0)) (by (with_reducible repeat (first | refine blk_drewN ?_ _ | refine blk_drew ?_ | refine blk_alloc ?_ _)); exact BK515.out) hb); have n2_ := Aside0.mk (below_step (by repeat (first | (with_reducible first | exact HB.out | apply below_alloc | apply pw_below_drewN | apply below_drew1 | refine below_set ?_ GE515.out) | exact HB.out)) hb); clear BK515; clear HB; have HO518 := n0_; have BK515 := n1_; have HB := n2_; clear n0_ n1_ n2_; (try clear hb); (try clear hb2); (try clear hk); (try clear hi); (try clear ho0)))
 (try simp only [Act.put, List.setIfInBounds_toArray, List.set_cons_zero, List.set_cons_succ])
 go_cut [6] (fun v6 wc => ∃ (kq : Nat) (x6_3 : Int), v6 = .int .i64 x6_3 ∧ Aside0 (isoglossref08_Short.j1 kq t516 x6_3 = some r) ∧ Aside0 (kq ≤ k) ∧ Aside0 (Kd.R Kd.string 9 wc w.heap.size (fun _ => True) v517 t516) ∧ Aside0 (wc.heap[gb515]? = some (.cells #[.string a0_0, (.slice A0_1 l0_1.length c0_1), .string a0_2, .string a0_3, (.slice A0_4 l0_4.length c0_4), (.slice A0_5 l0_5.length c0_5), (.slice A0_6 l0_6.length c0_6), .string a0_7] 34 (0, 0))) ∧ Aside0 (Below w.heap.size w wc))
 case first =>
  have H := HC4.out
  clear HC4
  have H' := Aside0.mk H
  clear H
  go_wp2
  go_loopg [6] k (fun kq v6 w' => ∃ (x6_1 : Int), v6 = .int .i64 x6_1 ∧ Aside0 (isoglossref08_Short.l0 kq a1 t516 x6_1 = some r) ∧ Aside0 (kq ≤ k) ∧ Aside0 (Kd.R Kd.string 9 w' w.heap.size (fun _ => True) v517 t516) ∧ Aside0 (w'.heap[gb515]? = some (.cells #[.string a0_0, (.slice A0_1 l0_1.length c0_1), .string a0_2, .string a0_3, (.slice A0_4 l0_4.length c0_4), (.slice A0_5 l0_5.length c0_5), (.slice A0_6 l0_6.length c0_6), .string a0_7] 34 (0, 0))) ∧ Aside0 (Below w.heap.size w w'))
  case atStart => exact ⟨(0), (by first | rfl | (simp; done) | (simp [*]; done)), H', ⟨Nat.le_refl _⟩, ⟨by (with_reducible repeat (first | apply Kd.R_alloc | apply Kd.R_drewN | apply Kd.R_drew)); exact HO518.out⟩, ⟨by (with_reducible repeat (first | refine blk_drewN ?_ _ | refine blk_drew ?_ | refine blk_alloc ?_ _)); exact BK515.out⟩, ⟨by repeat (first | (with_reducible first | exact HB.out | apply below_alloc | apply pw_below_drewN | apply below_drew1 | refine below_set ?_ GE515.out) | exact HB.out)⟩⟩
  case round =>
   clear H'
   try clear c2
   try clear p2
   try clear hcz6_0
   try clear hcz6_1
   try clear hcz6_2
   try clear hcz6_3
   try clear hcz6_4
   try clear hcz6_5
   try clear hcz6_6
   try clear hcz6_7
   try clear hfz6_0
   try clear hfz6_1
   try clear hfz6_2
   try clear hfz6_3
   try clear hfz6_4
   try clear hfz6_5
   try clear hfz6_6
   try clear hfz6_7
   obtain ⟨x6_1, rfl, HA, HK1, HO_5, BK515, HB⟩ := hrel
   cases gk with
   | zero => exact absurd HA.out (by simp [isoglossref08_Short.l0])
   | succ k1 =>
    have H := HA.out
    clear HA
    simp only [isoglossref08_Short.l0] at H
    by_cases c8 : x6_1 < (t516.length : Int)
    ·rw [if_pos c8] at H
     have c8b0 : decide (x6_1 < (t516.length : Int)) = true := decide_eq_true c8
     clear c8
     (first | rw [c8b0] | (simp only [i64_w, i32_w]; rw [c8b0]) | skip)
     obtain ⟨ji9, hji9⟩ : ∃ j_ : Int, (wrap64 (x6_1 + 1)) = j_ := ⟨_, rfl⟩
     replace H : (if 0 ≤ (ji9) then (if (ji9) ≤ (t516.length : Int) then ((isoglossref04_Join.f k1 (t516.take ((ji9) : Int).toNat)).bind fun t523 => (if (t523.size : Int) ≤ a1 then (isoglossref08_Short.l0 k1 a1 t516 ji9) else (isoglossref08_Short.j1 k1 t516 x6_1))) else (none)) else (none)) = some r := by first | (rw [hji9] at H; exact H) | (simp only [hji9] at H ⊢; exact H)
     have hji9w : (IntKind.i64.wrap (x6_1 + 1)) = ji9 := (i64_w _).trans hji9
     by_cases c10 : 0 ≤ (ji9)
     ·rw [if_pos c10] at H
      have c10b0 := eq_true c10
      have c10b1 : decide (0 ≤ (ji9)) = true := decide_eq_true c10
      clear c10
      by_cases c11 : (ji9) ≤ (t516.length : Int)
      ·rw [if_pos c11] at H
       have c11b0 := eq_true c11
       have c11b1 : decide ((ji9) ≤ (t516.length : Int)) = true := decide_eq_true c11
       clear c11
       obtain ⟨y519, hy519⟩ : ∃ y_ : List ByteArray, y_ = (t516.take ((ji9) : Int).toNat) := ⟨_, rfl⟩
       replace H : ((isoglossref04_Join.f k1 y519).bind fun t523 => (if (t523.size : Int) ≤ a1 then (isoglossref08_Short.l0 k1 a1 t516 ji9) else (isoglossref08_Short.j1 k1 t516 x6_1))) = some r := by first | (rw [hy519]; with_reducible exact H) | (have H2_ := (Option.bind_some _ _).symm.trans H; rw [hy519]; with_reducible exact H2_) | (have H2_ := (Option.bind_some _ _).symm.trans H; with_reducible exact H2_) | with_reducible exact H | (rw [hy519]; exact H) | exact H
       have Ny519 := Aside0.mk hy519
       clear hy519
       replace H := Option.bind_eq_some_iff.mp H
       obtain ⟨t523, A120, H⟩ := H
       replace H : (if (t523.size : Int) ≤ a1 then (isoglossref08_Short.l0 k1 a1 t516 ji9) else (isoglossref08_Short.j1 k1 t516 x6_1)) = some r := H
       have A12 := Aside0.mk A120
       clear A120
       by_cases c13 : (t523.size : Int) ≤ a1
       ·rw [if_pos c13] at H
        have c13b0 : decide ((t523.size : Int) ≤ a1) = true := decide_eq_true c13
        clear c13
        have H' := Aside0.mk H
        clear H
        obtain ⟨Ao14, co14, eo14⟩ := Kd.R_slice HO_5.out
        subst eo14
        have q15 : ((ji9) : Int) ≤ ((t516.length : Int) : Int) := of_decide_eq_true (by first | (with_reducible assumption) | assumption)
        obtain ⟨i015, hi015, _, hsz15, _⟩ := info_parts info9
        have hroom15 : t516.length ≤ co14 := (Kd.R_reads' HO_5.out).2.1
        have hC15 : Kd.C Kd.string _ Ao14 t516.length t516 := (Kd.R_reads' HO_5.out).2.2
        have hcut15 := cut_to (P := Try.prog) 25 9 .i64 Try.underlying25 hi015 Ao14 t516.length co14 (ji9) (of_decide_eq_true (by first | (with_reducible assumption) | assumption)) q15 hroom15
        have hr15 := Kd.C_take (m := ((ji9) : Int).toNat) hC15 (by omega)
        have hy15 : y519.length = ((ji9) : Int).toNat := (by rw [Ny519.out, List.length_take]; omega)
        rw [← Ny519.out] at hr15
        rw [← hy15] at hcut15
        have HR522 := Aside0.mk hr15
        have HC522 := Aside0.mk (show y519.length ≤ co14 from by omega)
        clear hr15 hC15 hroom15 hi015 hsz15
        have KY15 := Aside0.mk hy15
        clear hy15
        have KL15 := Aside0.mk (show ((ji9) : Int).toNat ≤ t516.length from by omega)
        replace q15 := eq_true q15
        go_wp2_with (first | (go_at_call 21; (with_reducible refine (isoglossref04_Join.calls k1 _ _ y519 t523 _ ?side1 ?side2 A12.out).mono ?_); (case side1 => repeat (first | exact (by repeat (first | (with_reducible exact HR522.out) | (with_reducible refine Kd.C_alloc ?_ _) | (with_reducible refine Kd.C_drewN ?_ _) | (with_reducible refine Kd.C_drew ?_) | exact HR522.out)) | (with_reducible refine Kd.C_alloc ?_ _) | (with_reducible refine Kd.C_drewN ?_ _) | (with_reducible refine Kd.C_drew ?_))); (case side2 => exact HC522.out); rintro e w' ⟨rfl, ⟨nd, rfl⟩⟩))
        go_roundg k1
        case measure => have := HK1.out; omega
        case rel => exact ⟨(ji9), (by first | rfl | (simp; done) | (simp only [← hji9] <;> (first | rfl | simp)) | (simp [*]; done)), H', ⟨by have := HK1.out; omega⟩, ⟨by (with_reducible repeat (first | apply Kd.R_alloc | apply Kd.R_drewN | apply Kd.R_drew)); exact HO_5.out⟩, ⟨by (with_reducible repeat (first | refine blk_drewN ?_ _ | refine blk_drew ?_ | refine blk_alloc ?_ _)); exact BK515.out⟩, ⟨by repeat (first | (with_reducible first | exact HB.out | apply below_alloc | apply pw_below_drewN | apply below_drew1 | refine below_set ?_ GE515.out) | exact HB.out)⟩⟩
       ·rw [if_neg c13] at H
        have c13b0 : decide ((t523.size : Int) ≤ a1) = false := decide_eq_false c13
        clear c13
        have H' := Aside0.mk H
        clear H
        obtain ⟨Ao16, co16, eo16⟩ := Kd.R_slice HO_5.out
        subst eo16
        have q17 : ((ji9) : Int) ≤ ((t516.length : Int) : Int) := of_decide_eq_true (by first | (with_reducible assumption) | assumption)
        obtain ⟨i017, hi017, _, hsz17, _⟩ := info_parts info9
        have hroom17 : t516.length ≤ co16 := (Kd.R_reads' HO_5.out).2.1
        have hC17 : Kd.C Kd.string _ Ao16 t516.length t516 := (Kd.R_reads' HO_5.out).2.2
        have hcut17 := cut_to (P := Try.prog) 25 9 .i64 Try.underlying25 hi017 Ao16 t516.length co16 (ji9) (of_decide_eq_true (by first | (with_reducible assumption) | assumption)) q17 hroom17
        have hr17 := Kd.C_take (m := ((ji9) : Int).toNat) hC17 (by omega)
        have hy17 : y519.length = ((ji9) : Int).toNat := (by rw [Ny519.out, List.length_take]; omega)
        rw [← Ny519.out] at hr17
        rw [← hy17] at hcut17
        have HR522 := Aside0.mk hr17
        have HC522 := Aside0.mk (show y519.length ≤ co16 from by omega)
        clear hr17 hC17 hroom17 hi017 hsz17
        have KY17 := Aside0.mk hy17
        clear hy17
        have KL17 := Aside0.mk (show ((ji9) : Int).toNat ≤ t516.length from by omega)
        replace q17 := eq_true q17
        go_wp2_with (first | (go_at_call 21; (with_reducible refine (isoglossref04_Join.calls k1 _ _ y519 t523 _ ?side1 ?side2 A12.out).mono ?_); (case side1 => repeat (first | exact (by repeat (first | (with_reducible exact HR522.out) | (with_reducible refine Kd.C_alloc ?_ _) | (with_reducible refine Kd.C_drewN ?_ _) | (with_reducible refine Kd.C_drew ?_) | exact HR522.out)) | (with_reducible refine Kd.C_alloc ?_ _) | (with_reducible refine Kd.C_drewN ?_ _) | (with_reducible refine Kd.C_drew ?_))); (case side2 => exact HC522.out); rintro e w' ⟨rfl, ⟨nd, rfl⟩⟩))
        go_meet
        case rel => exact ⟨_, (x6_1), (by first | rfl | (simp; done) | (simp [*]; done)), H', ⟨by have := HK1.out; first | omega | exact Nat.le_refl _⟩, ⟨by (with_reducible repeat (first | apply Kd.R_alloc | apply Kd.R_drewN | apply Kd.R_drew)); exact HO_5.out⟩, ⟨by (with_reducible repeat (first | refine blk_drewN ?_ _ | refine blk_drew ?_ | refine blk_alloc ?_ _)); exact BK515.out⟩, ⟨by repeat (first | (with_reducible first | exact HB.out | apply below_alloc | apply pw_below_drewN | apply below_drew1 | refine below_set ?_ GE515.out) | exact HB.out)⟩⟩
      ·rw [if_neg c11] at H
       exact absurd H (by simp)
     ·rw [if_neg c10] at H
      exact absurd H (by simp)
    ·rw [if_neg c8] at H
     have c8b0 : decide (x6_1 < (t516.length : Int)) = false := decide_eq_false c8
     clear c8
     (first | rw [c8b0] | (simp only [i64_w, i32_w]; rw [c8b0]) | skip)
     have H' := Aside0.mk H
     clear H
     obtain ⟨Ao18, co18, eo18⟩ := Kd.R_slice HO_5.out
     subst eo18
     go_wp2
     go_meet
     case rel => exact ⟨_, (x6_1), (by first | rfl | (simp; done) | (simp [*]; done)), H', ⟨by have := HK1.out; first | omega | exact Nat.le_refl _⟩, ⟨by (with_reducible repeat (first | apply Kd.R_alloc | apply Kd.R_drewN | apply Kd.R_drew)); exact HO_5.out⟩, ⟨by (with_reducible repeat (first | refine blk_drewN ?_ _ | refine blk_drew ?_ | refine blk_alloc ?_ _)); exact BK515.out⟩, ⟨by repeat (first | (with_reducible first | exact HB.out | apply below_alloc | apply pw_below_drewN | apply below_drew1 | refine below_set ?_ GE515.out) | exact HB.out)⟩⟩
 case rest =>
  clear HC4
  try clear c1
  try clear q1
  try clear c2
  try clear p2
  try clear p6
  try clear c8
  try clear c8b0
  try clear c10
  try clear c10b0
  try clear c10b1
  try clear c11
  try clear c11b0
  try clear c11b1
  try clear c13
  try clear c13b0
  try clear q15
  try clear q17
  try clear hcz6_0
  try clear hcz6_1
  try clear hcz6_2
  try clear hcz6_3
  try clear hcz6_4
  try clear hcz6_5
  try clear hcz6_6
  try clear hcz6_7
  try clear hfz6_0
  try clear hfz6_1
  try clear hfz6_2
  try clear hfz6_3
  try clear hfz6_4
  try clear hfz6_5
  try clear hfz6_6
  try clear hfz6_7
  try clear p2
  try clear q15
  try clear q17
  obtain ⟨kq, x6_3, rfl, HA, HJ3, HO_5, BK515, HB⟩ := hcut
  cases kq with
  | zero => exact absurd HA.out (by simp [isoglossref08_Short.j1])
  | succ kj3 =>
   have H := HA.out
   clear HA
   simp only [isoglossref08_Short.j1] at H
   have H' := Aside0.mk H
   clear H
   go_wp2
   go_loopg [6] kj3 (fun kq v6 w' => ∃ (x6_2 : Int), v6 = .int .i64 x6_2 ∧ Aside0 (isoglossref08_Short.l1 kq t516 x6_2 = some r) ∧ Aside0 (kq ≤ kj3) ∧ Aside0 (Kd.R Kd.string 9 w' w.heap.size (fun _ => True) v517 t516) ∧ Aside0 (w'.heap[gb515]? = some (.cells #[.string a0_0, (.slice A0_1 l0_1.length c0_1), .string a0_2, .string a0_3, (.slice A0_4 l0_4.length c0_4), (.slice A0_5 l0_5.length c0_5), (.slice A0_6 l0_6.length c0_6), .string a0_7] 34 (0, 0))) ∧ Aside0 (Below w.heap.size w w'))
   case atStart => exact ⟨(x6_3), (by first | rfl | (simp; done) | (simp [*]; done)), H', ⟨Nat.le_refl _⟩, ⟨by (with_reducible repeat (first | apply Kd.R_alloc | apply Kd.R_drewN | apply Kd.R_drew)); exact HO_5.out⟩, ⟨by (with_reducible repeat (first | refine blk_drewN ?_ _ | refine blk_drew ?_ | refine blk_alloc ?_ _)); exact BK515.out⟩, ⟨by repeat (first | (with_reducible first | exact HB.out | apply below_alloc | apply pw_below_drewN | apply below_drew1 | refine below_set ?_ GE515.out) | exact HB.out)⟩⟩
   case round =>
    clear H'
    try clear c1
    try clear q1
    try clear c2
    try clear p2
    try clear p6
    try clear c8
    try clear c8b0
    try clear c10
    try clear c10b0
    try clear c10b1
    try clear c11
    try clear c11b0
    try clear c11b1
    try clear c13
    try clear c13b0
    try clear q15
    try clear q17
    try clear hcz6_0
    try clear hcz6_1
    try clear hcz6_2
    try clear hcz6_3
    try clear hcz6_4
    try clear hcz6_5
    try clear hcz6_6
    try clear hcz6_7
    try clear hfz6_0
    try clear hfz6_1
    try clear hfz6_2
    try clear hfz6_3
    try clear hfz6_4
    try clear hfz6_5
    try clear hfz6_6
    try clear hfz6_7
    try clear p2
    try clear p6
    try clear q1
    try clear q15
    try clear q17
    obtain ⟨x6_2, rfl, HA, HK2, HO_5, BK515, HB⟩ := hrel
    cases gk with
    | zero => exact absurd HA.out (by simp [isoglossref08_Short.l1])
    | succ k2 =>
     have H := HA.out
     clear HA
     simp only [isoglossref08_Short.l1] at H
     by_cases c19 : x6_2 > 1
     ·rw [if_pos c19] at H
      have c19b0 : decide (1 < x6_2) = true := decide_eq_true c19
      clear c19
      obtain ⟨ji20, hji20⟩ : ∃ j_ : Int, (wrap64 (x6_2 - 1)) = j_ := ⟨_, rfl⟩
      replace H : (if 0 ≤ (ji20) then (if (ji20) < (t516.length : Int) then (if ((rdOf ByteArray.empty t516 (ji20)).size : Int) = 1 then (isoglossref08_Short.l1 k2 t516 ji20) else (if 0 ≤ x6_2 then (if x6_2 ≤ (t516.length : Int) then ((isoglossref04_Join.f k2 (t516.take (x6_2 : Int).toNat)).bind fun t529 => ((isoglossref08_Case.f k2 t529).bind fun t530 => (some t530))) else (none)) else (none))) else (none)) else (none)) = some r := by first | (rw [hji20] at H; exact H) | (simp only [hji20] at H ⊢; exact H)
      have hji20w : (IntKind.i64.wrap (x6_2 - 1)) = ji20 := (i64_w _).trans hji20
      by_cases c21 : 0 ≤ (ji20)
      ·rw [if_pos c21] at H
       have c21b0 : decide (0 ≤ (ji20)) = true := decide_eq_true c21
       clear c21
       by_cases c22 : (ji20) < (t516.length : Int)
       ·rw [if_pos c22] at H
        have c22b0 : decide ((ji20) < (t516.length : Int)) = true := decide_eq_true c22
        clear c22
        by_cases c23 : ((rdOf ByteArray.empty t516 (ji20)).size : Int) = 1
        ·rw [if_pos c23] at H
         have c23b0 : (((rdOf ByteArray.empty t516 (ji20)).size : Int) == 1) = true := beq_iff_eq.mpr c23
         have c23b1 : (((rdOf ByteArray.empty t516 (ji20)).size : Int) != 1) = false := bne_eq_false_iff_eq.mpr c23
         clear c23
         have H' := Aside0.mk H
         clear H
         obtain ⟨Ao24, co24, eo24⟩ := Kd.R_slice HO_5.out
         subst eo24
         have p524 : 0 ≤ ((ji20) : Int) := of_decide_eq_true (by first | (with_reducible assumption) | assumption)
         have q524 : (ji20) < (t516.length : Int) := of_decide_eq_true (by first | (with_reducible assumption) | assumption)
         obtain ⟨ad524, e524, hx524_0⟩ := Kd.at_string (Kd.R_reads' HO_5.out).2.2 (ji20) p524 q524
         cases e524
         replace p524 := eq_true p524
         replace q524 := eq_true q524
         go_wp2
         go_roundg k2
         case measure => have := HJ3.out; have := HK2.out; omega
         case rel => exact ⟨(ji20), (by first | rfl | (simp; done) | (simp only [← hji20] <;> (first | rfl | simp)) | (simp [*]; done)), H', ⟨by have := HJ3.out; have := HK2.out; omega⟩, ⟨by (with_reducible repeat (first | apply Kd.R_alloc | apply Kd.R_drewN | apply Kd.R_drew)); exact HO_5.out⟩, ⟨by (with_reducible repeat (first | refine blk_drewN ?_ _ | refine blk_drew ?_ | refine blk_alloc ?_ _)); exact BK515.out⟩, ⟨by repeat (first | (with_reducible first | exact HB.out | apply below_alloc | apply pw_below_drewN | apply below_drew1 | refine below_set ?_ GE515.out) | exact HB.out)⟩⟩
        ·rw [if_neg c23] at H
         have c23b0 : (((rdOf ByteArray.empty t516 (ji20)).size : Int) == 1) = false := beq_eq_false_iff_ne.mpr c23
         have c23b1 : (((rdOf ByteArray.empty t516 (ji20)).size : Int) != 1) = true := bne_iff_ne.mpr c23
         by_cases c25 : 0 ≤ x6_2
         ·rw [if_pos c25] at H
          have c25b0 := eq_true c25
          have c25b1 : decide (0 ≤ x6_2) = true := decide_eq_true c25
          clear c25
          by_cases c26 : x6_2 ≤ (t516.length : Int)
          ·rw [if_pos c26] at H
           have c26b0 := eq_true c26
           have c26b1 : decide (x6_2 ≤ (t516.length : Int)) = true := decide_eq_true c26
           clear c26
           obtain ⟨y525, hy525⟩ : ∃ y_ : List ByteArray, y_ = (t516.take (x6_2 : Int).toNat) := ⟨_, rfl⟩
           replace H : ((isoglossref04_Join.f k2 y525).bind fun t529 => ((isoglossref08_Case.f k2 t529).bind fun t530 => (some t530))) = some r := by first | (rw [hy525]; with_reducible exact H) | (have H2_ := (Option.bind_some _ _).symm.trans H; rw [hy525]; with_reducible exact H2_) | (have H2_ := (Option.bind_some _ _).symm.trans H; with_reducible exact H2_) | with_reducible exact H | (rw [hy525]; exact H) | exact H
           have Ny525 := Aside0.mk hy525
           clear hy525
           replace H := Option.bind_eq_some_iff.mp H
           obtain ⟨t529, A270, H⟩ := H
           replace H : ((isoglossref08_Case.f k2 t529).bind fun t530 => (some t530)) = some r := H
           have A27 := Aside0.mk A270
           clear A270
           replace H := Option.bind_eq_some_iff.mp H
           obtain ⟨t530, A280, H⟩ := H
           replace H : (some t530) = some r := H
           have A28 := Aside0.mk A280
           clear A280
           obtain rfl := Option.some.inj H
           obtain ⟨Ao29, co29, eo29⟩ := Kd.R_slice HO_5.out
           subst eo29
           have p524 : 0 ≤ ((ji20) : Int) := of_decide_eq_true (by first | (with_reducible assumption) | assumption)
           have q524 : (ji20) < (t516.length : Int) := of_decide_eq_true (by first | (with_reducible assumption) | assumption)
           obtain ⟨ad524, e524, hx524_0⟩ := Kd.at_string (Kd.R_reads' HO_5.out).2.2 (ji20) p524 q524
           cases e524
           replace p524 := eq_true p524
           replace q524 := eq_true q524
           have q30 : (x6_2 : Int) ≤ ((t516.length : Int) : Int) := of_decide_eq_true (by first | (with_reducible assumption) | assumption)
           obtain ⟨i030, hi030, _, hsz30, _⟩ := info_parts info9
           have hroom30 : t516.length ≤ co29 := (Kd.R_reads' HO_5.out).2.1
           have hC30 : Kd.C Kd.string _ (some ad524) t516.length t516 := (Kd.R_reads' HO_5.out).2.2
           have hcut30 := cut_to (P := Try.prog) 25 9 .i64 Try.underlying25 hi030 (some ad524) t516.length co29 x6_2 (of_decide_eq_true (by first | (with_reducible assumption) | assumption)) q30 hroom30
           have hr30 := Kd.C_take (m := (x6_2 : Int).toNat) hC30 (by omega)
           have hy30 : y525.length = (x6_2 : Int).toNat := (by rw [Ny525.out, List.length_take]; omega)
           rw [← Ny525.out] at hr30
           rw [← hy30] at hcut30
           have HR528 := Aside0.mk hr30
           have HC528 := Aside0.mk (show y525.length ≤ co29 from by omega)
           clear hr30 hC30 hroom30 hi030 hsz30
           have KY30 := Aside0.mk hy30
           clear hy30
           have KL30 := Aside0.mk (show (x6_2 : Int).toNat ≤ t516.length from by omega)
           replace q30 := eq_true q30
           go_wp2_with (first | ((with_reducible refine gate_callee (f := 21) rfl ?_); refine goesL_ (some 41) rfl rfl Try.func21 (by kernel_rfl) rfl #[.slice (some ad524) y525.length co29] rfl (by (try simp only [List.map_toArray, List.map_cons, List.map_nil]); first | done | rfl | (simp only [List.length_drop, List.length_take]; rfl)) ?_; (with_reducible refine (isoglossref04_Join.calls k2 _ _ y525 t529 _ ?side1 ?side2 A27.out).mono ?_); (case side1 => repeat (first | exact (by repeat (first | (with_reducible exact HR528.out) | (with_reducible refine Kd.C_alloc ?_ _) | (with_reducible refine Kd.C_drewN ?_ _) | (with_reducible refine Kd.C_drew ?_) | exact HR528.out)) | (with_reducible refine Kd.C_alloc ?_ _) | (with_reducible refine Kd.C_drewN ?_ _) | (with_reducible refine Kd.C_drew ?_))); (case side2 => exact HC528.out); rintro e w' ⟨rfl, ⟨nd, rfl⟩⟩; refine ⟨_, rfl, ?_⟩) | ((with_reducible refine gate_callee (f := 24) rfl ?_); refine goesL_ (some 42) rfl rfl Try.func24 (by kernel_rfl) rfl #[.string t529] rfl (by (try simp only [List.map_toArray, List.map_cons, List.map_nil]); first | done | rfl | (simp only [List.length_drop, List.length_take]; rfl)) ?_; (with_reducible refine (isoglossref08_Case.calls k2 t529 t530 _ A28.out).mono ?_); rintro e w31 ⟨rfl, hb⟩; refine ⟨_, rfl, ?_⟩; have n0_ := Aside0.mk (Kd.R_below (by (with_reducible repeat (first | apply Kd.R_alloc | apply Kd.R_drewN | apply Kd.R_drew)); exact HO_5.out) hb); have n1_ := Aside0.mk (blk_below (g := gb515) (o := .cells #[.string a0_0, .slice A0_1 l0_1.length c0_1, .string a0_2, .string a0_3, .slice A0_4 l0_4.length c0_4, .slice A0_5 l0_5.length c0_5, .slice A0_6 l0_6.length c0_6, .string a0_7] 34 (0, 0)) (by (with_reducible repeat (first | refine blk_drewN ?_ _ | refine blk_drew ?_ | refine blk_alloc ?_ _)); exact BK515.out) hb); have n2_ := Aside0.mk (Kd.C_below (by repeat (first | (with_reducible exact HR528.out) | (with_reducible refine Kd.C_alloc ?_ _) | (with_reducible refine Kd.C_drewN ?_ _) | (with_reducible refine Kd.C_drew ?_) | exact HR528.out)) hb); have n3_ := Aside0.mk (below_step (by repeat (first | (with_reducible first | exact HB.out | apply below_alloc | apply pw_below_drewN | apply below_drew1 | refine below_set ?_ GE515.out) | exact HB.out)) hb); clear HO_5; clear BK515; clear HR528; clear HB; have HO_5 := n0_; have BK515 := n1_; have HR528 := n2_; have HB := n3_; clear n0_ n1_ n2_ n3_; (try clear hb); (try clear hb2); (try clear hk); (try clear hi)))
           go_ret
           exact ⟨by first | rfl | (simp [errW_none, errW_some] <;> rfl) | (simp only [← hji20]; first | rfl | (simp [errW_none, errW_some] <;> rfl)) | (simp [*, errW_none, errW_some] <;> rfl), by repeat (first | (with_reducible first | exact HB.out | apply below_alloc | apply pw_below_drewN | apply below_drew1 | refine below_set ?_ GE515.out) | exact HB.out)⟩
          ·rw [if_neg c26] at H
           exact absurd H (by simp)
         ·rw [if_neg c25] at H
          exact absurd H (by simp)
       ·rw [if_neg c22] at H
        exact absurd H (by simp)
      ·rw [if_neg c21] at H
       exact absurd H (by simp)
     ·rw [if_neg c19] at H
      have c19b0 : decide (1 < x6_2) = false := decide_eq_false c19
      clear c19
      by_cases c32 : 0 ≤ x6_2
      ·rw [if_pos c32] at H
       have c32b0 := eq_true c32
       have c32b1 : decide (0 ≤ x6_2) = true := decide_eq_true c32
       clear c32
       by_cases c33 : x6_2 ≤ (t516.length : Int)
       ·rw [if_pos c33] at H
        have c33b0 := eq_true c33
        have c33b1 : decide (x6_2 ≤ (t516.length : Int)) = true := decide_eq_true c33
        clear c33
        obtain ⟨y531, hy531⟩ : ∃ y_ : List ByteArray, y_ = (t516.take (x6_2 : Int).toNat) := ⟨_, rfl⟩
        replace H : ((isoglossref04_Join.f k2 y531).bind fun t535 => ((isoglossref08_Case.f k2 t535).bind fun t536 => (some t536))) = some r := by first | (rw [hy531]; with_reducible exact H) | (have H2_ := (Option.bind_some _ _).symm.trans H; rw [hy531]; with_reducible exact H2_) | (have H2_ := (Option.bind_some _ _).symm.trans H; with_reducible exact H2_) | with_reducible exact H | (rw [hy531]; exact H) | exact H
        have Ny531 := Aside0.mk hy531
        clear hy531
        replace H := Option.bind_eq_some_iff.mp H
        obtain ⟨t535, A340, H⟩ := H
        replace H : ((isoglossref08_Case.f k2 t535).bind fun t536 => (some t536)) = some r := H
        have A34 := Aside0.mk A340
        clear A340
        replace H := Option.bind_eq_some_iff.mp H
        obtain ⟨t536, A350, H⟩ := H
        replace H : (some t536) = some r := H
        have A35 := Aside0.mk A350
        clear A350
        obtain rfl := Option.some.inj H
        obtain ⟨Ao37, co37, eo37⟩ := Kd.R_slice HO_5.out
        subst eo37
        have q36 : (x6_2 : Int) ≤ ((t516.length : Int) : Int) := of_decide_eq_true (by first | (with_reducible assumption) | assumption)
        obtain ⟨i036, hi036, _, hsz36, _⟩ := info_parts info9
        have hroom36 : t516.length ≤ co37 := (Kd.R_reads' HO_5.out).2.1
        have hC36 : Kd.C Kd.string _ Ao37 t516.length t516 := (Kd.R_reads' HO_5.out).2.2
        have hcut36 := cut_to (P := Try.prog) 25 9 .i64 Try.underlying25 hi036 Ao37 t516.length co37 x6_2 (of_decide_eq_true (by first | (with_reducible assumption) | assumption)) q36 hroom36
        have hr36 := Kd.C_take (m := (x6_2 : Int).toNat) hC36 (by omega)
        have hy36 : y531.length = (x6_2 : Int).toNat := (by rw [Ny531.out, List.length_take]; omega)
        rw [← Ny531.out] at hr36
        rw [← hy36] at hcut36
        have HR534 := Aside0.mk hr36
        have HC534 := Aside0.mk (show y531.length ≤ co37 from by omega)
        clear hr36 hC36 hroom36 hi036 hsz36
        have KY36 := Aside0.mk hy36
        clear hy36
        have KL36 := Aside0.mk (show (x6_2 : Int).toNat ≤ t516.length from by omega)
        replace q36 := eq_true q36
        go_wp2_with (first | ((with_reducible refine gate_callee (f := 21) rfl ?_); refine goesL_ (some 41) rfl rfl Try.func21 (by kernel_rfl) rfl #[.slice Ao37 y531.length co37] rfl (by (try simp only [List.map_toArray, List.map_cons, List.map_nil]); first | done | rfl | (simp only [List.length_drop, List.length_take]; rfl)) ?_; (with_reducible refine (isoglossref04_Join.calls k2 _ _ y531 t535 _ ?side1 ?side2 A34.out).mono ?_); (case side1 => repeat (first | exact (by repeat (first | (with_reducible exact HR534.out) | (with_reducible refine Kd.C_alloc ?_ _) | (with_reducible refine Kd.C_drewN ?_ _) | (with_reducible refine Kd.C_drew ?_) | exact HR534.out)) | (with_reducible refine Kd.C_alloc ?_ _) | (with_reducible refine Kd.C_drewN ?_ _) | (with_reducible refine Kd.C_drew ?_))); (case side2 => exact HC534.out); rintro e w' ⟨rfl, ⟨nd, rfl⟩⟩; refine ⟨_, rfl, ?_⟩) | ((with_reducible refine gate_callee (f := 24) rfl ?_); refine goesL_ (some 42) rfl rfl Try.func24 (by kernel_rfl) rfl #[.string t535] rfl (by (try simp only [List.map_toArray, List.map_cons, List.map_nil]); first | done | rfl | (simp only [List.length_drop, List.length_take]; rfl)) ?_; (with_reducible refine (isoglossref08_Case.calls k2 t535 t536 _ A35.out).mono ?_); rintro e w38 ⟨rfl, hb⟩; refine ⟨_, rfl, ?_⟩; have n0_ := Aside0.mk (Kd.R_below (by (with_reducible repeat (first | apply Kd.R_alloc | apply Kd.R_drewN | apply Kd.R_drew)); exact HO_5.out) hb); have n1_ := Aside0.mk (blk_below (g := gb515) (o := .cells #[.string a0_0, .slice A0_1 l0_1.length c0_1, .string a0_2, .string a0_3, .slice A0_4 l0_4.length c0_4, .slice A0_5 l0_5.length c0_5, .slice A0_6 l0_6.length c0_6, .string a0_7] 34 (0, 0)) (by (with_reducible repeat (first | refine blk_drewN ?_ _ | refine blk_drew ?_ | refine blk_alloc ?_ _)); exact BK515.out) hb); have n2_ := Aside0.mk (Kd.C_below (by repeat (first | (with_reducible exact HR534.out) | (with_reducible refine Kd.C_alloc ?_ _) | (with_reducible refine Kd.C_drewN ?_ _) | (with_reducible refine Kd.C_drew ?_) | exact HR534.out)) hb); have n3_ := Aside0.mk (below_step (by repeat (first | (with_reducible first | exact HB.out | apply below_alloc | apply pw_below_drewN | apply below_drew1 | refine below_set ?_ GE515.out) | exact HB.out)) hb); clear HO_5; clear BK515; clear HR534; clear HB; have HO_5 := n0_; have BK515 := n1_; have HR534 := n2_; have HB := n3_; clear n0_ n1_ n2_ n3_; (try clear hb); (try clear hb2); (try clear hk); (try clear hi)))
        go_ret
        exact ⟨by first | rfl | (simp [errW_none, errW_some] <;> rfl) | (simp [*, errW_none, errW_some] <;> rfl), by repeat (first | (with_reducible first | exact HB.out | apply below_alloc | apply pw_below_drewN | apply below_drew1 | refine below_set ?_ GE515.out) | exact HB.out)⟩
       ·rw [if_neg c33] at H
        exact absurd H (by simp)
      ·rw [if_neg c32] at H
       exact absurd H (by simp)
end Go.Proofs.Ytojglflamecnkaa.P
