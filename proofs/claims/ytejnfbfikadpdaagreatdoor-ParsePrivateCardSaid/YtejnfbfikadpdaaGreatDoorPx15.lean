-- Written for this claim by the session's own run of the print, functions proved by hand put in.
import Derived.Test.YtejnfbfikadpdaaGreatDoorPx0
import Derived.Test.YtejnfbfikadpdaaGreatDoorPx6
import Derived.Test.YtejnfbfikadpdaaGreatDoorPx8
import Derived.Test.YtejnfbfikadpdaaGreatDoorPx12
namespace Go.Proofs.YtejnfbfikadpdaaGreatDoor.P
open Go.RowKit Go.Proofs.YtejnfbfikadpdaaGreatDoorW.PrintWords Go.Proofs.YtejnfbfikadpdaaGreatDoorW.PrintLast Go.Proofs.YtejnfbfikadpdaaGreatDoorW.PrintMore
open Go.Proofs.YtejnfbfikadpdaaGreatDoorW.PrintWords renaming blk_alloc → bA_, blk_drewN → bN_, blk_drew → bD_, below_alloc → wA_, pw_below_drewN → wN_, below_drew1 → wD_, below_set → wS_
theorem c2_15 {w : World} {g : Nat} {t : TypeId} {x0 x1 : Value} (h : w.heap[g]? = some (.cells #[x0, x1] t (0, 0))) : w.cell? ⟨g, 0, none⟩ = some x0 ∧ w.cell? ⟨g, 1, none⟩ = some x1 ∧ w.frozen? ⟨g, 0, none⟩ = false ∧ w.frozen? ⟨g, 1, none⟩ = false :=
  ⟨(Go.Proofs.YtejnfbfikadpdaaGreatDoorW.PrintWords.blk_cell h 0).trans rfl, (Go.Proofs.YtejnfbfikadpdaaGreatDoorW.PrintWords.blk_cell h 1).trans rfl, Go.Proofs.YtejnfbfikadpdaaGreatDoorW.PrintWords.blk_frozen h 0, Go.Proofs.YtejnfbfikadpdaaGreatDoorW.PrintWords.blk_frozen h 1⟩
attribute [local go_sem] max2_int min2_int max_two min_two max_three min_three max_four min_four   -- for this text's walks alone
set_option linter.unusedVariables false
set_option linter.unusedSimpArgs false
def isoglossref04_Check.l0 : Nat → List (S87) → Int → Option (Int × Int)
 | 0, _, _ => none
 | k + 1, x3, x4 => if x4 < (x3.length : Int) then (if 0 ≤ x4 then ((isoglossref04_Sub.f k ((rd_T87 x3 x4).f1)).bind fun t427 => (if t427 = true then (isoglossref04_Check.l0 k x3 (wrap64 (x4 + 1))) else (some (10, (rd_T87 x3 x4).f0)))) else (none)) else (some (0, (-1)))
def isoglossref04_Check.f (k : Nat) (a0 : ByteArray) : Option (Int × Int) := (isoglossref04_Each.f k a0).bind fun t423 => (isoglossref04_Check.l0 k t423 0)
set_option maxHeartbeats 8000000 in
set_option maxRecDepth 100000 in
theorem isoglossref04_Check.calls (k : Nat) (a0 : ByteArray) (r1 : Int) (r2 : Int) (w : World) (h : isoglossref04_Check.f k a0 = some (r1, r2)) :
  Calls Tryz.prog 21 #[.string a0] w fun e w' => e = .returned (.agg #[.int .i64 r1, .int .i64 r2]) ∧ Below w.heap.size w w' := by
 have hu51 := Tryz.underlying51
 have HB := Aside0.mk (Below.refl w.heap.size w)
 have H : ((isoglossref04_Each.f k a0).bind fun t423 => (isoglossref04_Check.l0 k t423 0)) = some (r1, r2) := h
 clear h
 replace H := Option.bind_eq_some_iff.mp H
 obtain ⟨t423, A20, H⟩ := H
 replace H : (isoglossref04_Check.l0 k t423 0) = some (r1, r2) := H
 have A2 := Aside0.mk A20
 clear A20
 have H' := Aside0.mk H
 clear H
 go_enter Tryz.func21, Tryz.ntmps21
 go_wp2_with (first | ((with_reducible refine gate_dst (N := 2) rfl ?_); refine box_event ?hg (N := 2) ?hd (cs := #[.int .i64 0, .int .i64 0]) (t := 51) ?hr ?_; (case hd => rfl); (case hg => rfl); (case hr => first | (go_simp; done) | (go_simp; rfl)); intro gb422 hg w3 hbox hb; have n0_ := Aside0.mk (below_step (by repeat (first | (with_reducible first | exact HB.out | apply wA_ | apply wN_ | apply wD_) | exact HB.out)) hb); have n1_ := Aside0.mk (hbox); have n2_ := Aside0.mk ((by rw [hg]; exact (below_size (by repeat (first | (with_reducible first | exact HB.out | apply wA_ | apply wN_ | apply wD_) | exact HB.out))) : w.heap.size ≤ gb422)); have n3_ := Aside0.mk ((by rw [hg]; exact (below_size (by repeat (first | (with_reducible first | exact HB.out | apply wA_ | apply wN_ | apply wD_) | exact HB.out))) : w.heap.size ≤ gb422)); clear HB; have HB := n0_; have BK422 := n1_; have GW422 := n2_; have GE422 := n3_; clear n0_ n1_ n2_ n3_; clear hb hbox hg) | ((with_reducible refine gate_callee (f := 55) rfl ?_); refine goesL_ (some 7) rfl rfl Tryz.func55 (by kernel_rfl) rfl #[.string a0] rfl (by (try simp only [List.map_toArray, List.map_cons, List.map_nil]); first | done | rfl | (simp only [List.length_drop, List.length_take]; rfl)) ?_; (with_reducible refine (isoglossref04_Each.calls k a0 t423 _ A2.out).mono ?_); rintro e w4 ⟨v424, rfl, ho0, hb⟩; refine ⟨_, rfl, ?_⟩; have n0_ := Aside0.mk (Kd.R_lower ho0 (below_size (by repeat (first | (with_reducible first | exact HB.out | apply wA_ | apply wN_ | apply wD_ | refine wS_ ?_ GE422.out) | exact HB.out)))); have n1_ := Aside0.mk (blk_below (g := gb422) (o := .cells #[.int .i64 0, .int .i64 0] 51 (0, 0)) (by (with_reducible repeat (first | refine bN_ ?_ _ | refine bD_ ?_ | refine bA_ ?_ _)); exact BK422.out) hb); have n2_ := Aside0.mk (below_step (by repeat (first | (with_reducible first | exact HB.out | apply wA_ | apply wN_ | apply wD_ | refine wS_ ?_ GE422.out) | exact HB.out)) hb); clear BK422; clear HB; have HO425 := n0_; have BK422 := n1_; have HB := n2_; clear n0_ n1_ n2_; (try clear hb); (try clear hb2); (try clear hk); (try clear hi); (try clear ho0)))
 go_loopg [4] k (fun kq v4 w' => ∃ (x4_1 : Int) (x423000_1 : Int) (x423001_1 : Int), v4 = .int .i64 x4_1 ∧ Aside0 (isoglossref04_Check.l0 kq t423 x4_1 = some (r1, r2)) ∧ Aside0 (kq ≤ k) ∧ Aside0 (Kd.R k87 87 w' w.heap.size (fun _ => True) v424 t423) ∧ Aside0 (w'.heap[gb422]? = some (.cells #[.int .i64 x423000_1, .int .i64 x423001_1] 51 (0, 0))) ∧ Aside0 (Below w.heap.size w w'))
 case atStart => exact ⟨(0), (0), (0), (by first | rfl | (simp; done) | (simp [*]; done)), H', ⟨Nat.le_refl _⟩, ⟨by (with_reducible repeat (first | apply Kd.R_alloc | apply Kd.R_drewN | apply Kd.R_drew)); exact HO425.out⟩, ⟨by (with_reducible repeat (first | refine bN_ ?_ _ | refine bD_ ?_ | refine bA_ ?_ _)); exact BK422.out⟩, ⟨by repeat (first | (with_reducible first | exact HB.out | apply wA_ | apply wN_ | apply wD_ | refine wS_ ?_ GE422.out) | exact HB.out)⟩⟩
 case round =>
  clear H'
  try clear c2; try clear p2
  obtain ⟨x4_1, x423000_1, x423001_1, rfl, HA, HK1, HO_3, BK422, HB⟩ := hrel
  cases gk with
  | zero => exact absurd HA.out (by simp [isoglossref04_Check.l0])
  | succ k1 =>
   have H := HA.out
   clear HA
   simp only [isoglossref04_Check.l0] at H
   by_cases c5 : x4_1 < (t423.length : Int)
   ·rw [if_pos c5] at H
    have c5b0 : decide (x4_1 < (t423.length : Int)) = true := decide_eq_true c5
    clear c5
    by_cases c6 : 0 ≤ x4_1
    ·rw [if_pos c6] at H
     have c6b0 : decide (0 ≤ x4_1) = true := decide_eq_true c6
     clear c6
     replace H := Option.bind_eq_some_iff.mp H
     obtain ⟨t427, A70, H⟩ := H
     replace H : (if t427 = true then (isoglossref04_Check.l0 k1 t423 (wrap64 (x4_1 + 1))) else (some (10, (rd_T87 t423 x4_1).f0))) = some (r1, r2) := H
     have A7 := Aside0.mk A70
     clear A70
     by_cases c8 : t427 = true
     ·subst c8
      have H1 : (isoglossref04_Check.l0 k1 t423 (wrap64 (x4_1 + 1))) = some (r1, r2) := by rw [if_pos rfl] at H; exact H
      clear H
      have H := H1
      clear H1
      have H' := Aside0.mk H
      clear H
      obtain ⟨Ao9, co9, eo9⟩ := Kd.R_slice HO_3.out
      subst eo9
      have p426 : 0 ≤ (x4_1 : Int) := of_decide_eq_true (by first | (with_reducible assumption) | assumption)
      have q426 : x4_1 < (t423.length : Int) := of_decide_eq_true (by first | (with_reducible assumption) | assumption)
      obtain ⟨ad426, e426, hx426_0, hx426_1⟩ := at_T87 (Kd.R_reads' HO_3.out).2.2 x4_1 p426 q426
      cases e426
      replace p426 := eq_true p426
      replace q426 := eq_true q426
      go_wp2_with (first | ((with_reducible refine gate_callee (f := 56) rfl ?_); refine goesL_ (some 19) rfl rfl Tryz.func56 (by kernel_rfl) rfl #[.string ((rd_T87 t423 x4_1).f1)] rfl (by (try simp only [List.map_toArray, List.map_cons, List.map_nil]); first | done | rfl | (simp only [List.length_drop, List.length_take]; rfl)) ?_; (with_reducible refine (isoglossref04_Sub.calls k1 ((rd_T87 t423 x4_1).f1) true _ A7.out).mono ?_); rintro e w' ⟨rfl, ⟨nd, rfl⟩⟩; refine ⟨_, rfl, ?_⟩))
      go_roundg k1
      case measure => have := HK1.out; omega
      case rel => exact ⟨(wrap64 (x4_1 + 1)), (x423000_1), (x423001_1), (by first | rfl | (simp; done) | (simp [*]; done)), H', ⟨by have := HK1.out; omega⟩, ⟨by (with_reducible repeat (first | apply Kd.R_alloc | apply Kd.R_drewN | apply Kd.R_drew)); exact HO_3.out⟩, ⟨by (with_reducible repeat (first | refine bN_ ?_ _ | refine bD_ ?_ | refine bA_ ?_ _)); exact BK422.out⟩, ⟨by repeat (first | (with_reducible first | exact HB.out | apply wA_ | apply wN_ | apply wD_ | refine wS_ ?_ GE422.out) | exact HB.out)⟩⟩
     ·replace c8 := Bool.eq_false_iff.mpr c8
      subst c8
      have H1 : (some (10, (rd_T87 t423 x4_1).f0)) = some (r1, r2) := by rw [if_neg (show ¬ (false = true) by decide)] at H; exact H
      clear H
      have H := H1
      clear H1
      simp only [Option.some.injEq, Prod.mk.injEq] at H
      obtain ⟨rfl, rfl⟩ := H
      obtain ⟨Ao10, co10, eo10⟩ := Kd.R_slice HO_3.out
      subst eo10
      have p426 : 0 ≤ (x4_1 : Int) := of_decide_eq_true (by first | (with_reducible assumption) | assumption)
      have q426 : x4_1 < (t423.length : Int) := of_decide_eq_true (by first | (with_reducible assumption) | assumption)
      obtain ⟨ad426, e426, hx426_0, hx426_1⟩ := at_T87 (Kd.R_reads' HO_3.out).2.2 x4_1 p426 q426
      cases e426
      replace p426 := eq_true p426
      replace q426 := eq_true q426
      go_wp2_with (first | ((with_reducible refine gate_callee (f := 56) rfl ?_); refine goesL_ (some 19) rfl rfl Tryz.func56 (by kernel_rfl) rfl #[.string ((rd_T87 t423 x4_1).f1)] rfl (by (try simp only [List.map_toArray, List.map_cons, List.map_nil]); first | done | rfl | (simp only [List.length_drop, List.length_take]; rfl)) ?_; (with_reducible refine (isoglossref04_Sub.calls k1 ((rd_T87 t423 x4_1).f1) false _ A7.out).mono ?_); rintro e w' ⟨rfl, ⟨nd, rfl⟩⟩; refine ⟨_, rfl, ?_⟩; (try (rw [drewN_self wr]; generalize hq_ : World.drewN wr _ = wr; have n0_ : Aside0 (Kd.R k87 87 wr w.heap.size (fun _ => True) (.slice (some ad426) t423.length co10) t423) := ⟨by rw [← hq_]; exact (by (with_reducible repeat (first | apply Kd.R_alloc | apply Kd.R_drewN | apply Kd.R_drew)); exact HO_3.out)⟩; have n1_ : Aside0 (wr.heap[gb422]? = some (.cells #[.int .i64 x423000_1, .int .i64 x423001_1] 51 (0, 0))) := ⟨by rw [← hq_]; exact (by (with_reducible repeat (first | refine bN_ ?_ _ | refine bD_ ?_ | refine bA_ ?_ _)); exact BK422.out)⟩; have n2_ : Aside0 (Below w.heap.size w wr) := ⟨by rw [← hq_]; exact (by repeat (first | (with_reducible first | exact HB.out | apply wA_ | apply wN_ | apply wD_ | refine wS_ ?_ GE422.out) | exact HB.out))⟩; clear HO_3 BK422 HB hq_; have HO_3 := n0_; have BK422 := n1_; have HB := n2_; clear n0_ n1_ n2_)); have p428 : 0 ≤ (x4_1 : Int) := of_decide_eq_true (by first | (with_reducible assumption) | assumption); have q428 : x4_1 < (t423.length : Int) := of_decide_eq_true (by first | (with_reducible assumption) | assumption); obtain ⟨ad428, e428, hx428_0, hx428_1⟩ := at_T87 (Kd.R_reads' HO_3.out).2.2 x4_1 p428 q428; obtain rfl : ad426 = ad428 := (by injection e428); replace p428 := eq_true p428; replace q428 := eq_true q428; have hcz11_0 : wr.cell? ⟨gb422, 0, none⟩ = some (.int .i64 x423000_1) := (blk_cell BK422.out 0).trans rfl; have hcz11_1 : wr.cell? ⟨gb422, 1, none⟩ = some (.int .i64 x423001_1) := (blk_cell BK422.out 1).trans rfl; have hfz11_0 := blk_frozen BK422.out 0; have hfz11_1 := blk_frozen BK422.out 1))
      refine bodyPost_ret (results_cell_row rfl _ _ gb422 51 #[.int .i64 10, .int .i64 ((rd_T87 t423 x4_1).f0)] (0, 0) _ rfl (by (with_reducible repeat (first | refine bN_ ?_ _ | refine bD_ ?_ | refine bA_ ?_ _)); refine blk_put (cs := #[.int .i64 10, .int .i64 x423001_1]) ?_ 1 _ rfl; (with_reducible repeat (first | refine bN_ ?_ _ | refine bD_ ?_ | refine bA_ ?_ _)); refine blk_put (cs := #[.int .i64 x423000_1, .int .i64 x423001_1]) ?_ 0 _ rfl; (with_reducible repeat (first | refine bN_ ?_ _ | refine bD_ ?_ | refine bA_ ?_ _)); exact BK422.out) Tryz.underlying51 rfl (by kernel_rfl)) rfl ?_
      exact ⟨by first | rfl | (simp [errW_none, errW_some] <;> rfl) | (simp [*, errW_none, errW_some] <;> rfl), by repeat (first | (with_reducible first | exact HB.out | apply wA_ | apply wN_ | apply wD_ | refine wS_ ?_ GE422.out) | exact HB.out)⟩
    ·rw [if_neg c6] at H
     exact absurd H (by simp)
   ·rw [if_neg c5] at H
    have c5b0 : decide (x4_1 < (t423.length : Int)) = false := decide_eq_false c5
    clear c5
    simp only [Option.some.injEq, Prod.mk.injEq] at H
    obtain ⟨rfl, rfl⟩ := H
    obtain ⟨Ao12, co12, eo12⟩ := Kd.R_slice HO_3.out
    subst eo12
    obtain ⟨hcz13_0, hcz13_1, hfz13_0, hfz13_1⟩ := c2_15 BK422.out
    go_wp2
    refine bodyPost_ret (results_cell_row rfl _ _ gb422 51 #[.int .i64 0, .int .i64 (-1)] (0, 0) _ rfl (by (with_reducible repeat (first | refine bN_ ?_ _ | refine bD_ ?_ | refine bA_ ?_ _)); refine blk_put (cs := #[.int .i64 0, .int .i64 x423001_1]) ?_ 1 _ rfl; (with_reducible repeat (first | refine bN_ ?_ _ | refine bD_ ?_ | refine bA_ ?_ _)); refine blk_put (cs := #[.int .i64 x423000_1, .int .i64 x423001_1]) ?_ 0 _ rfl; (with_reducible repeat (first | refine bN_ ?_ _ | refine bD_ ?_ | refine bA_ ?_ _)); exact BK422.out) Tryz.underlying51 rfl (by kernel_rfl)) rfl ?_
    exact ⟨by first | rfl | (simp [errW_none, errW_some] <;> rfl) | (simp [*, errW_none, errW_some] <;> rfl), by repeat (first | (with_reducible first | exact HB.out | apply wA_ | apply wN_ | apply wD_ | refine wS_ ?_ GE422.out) | exact HB.out)⟩
def IsS137 (w0 W : World) (g : Nat) (f0 : List (S87)) (f1 : Int) (f2 : Int) : Prop := ∃ A0 c0, W.heap[g]? = some (.cells #[.slice A0 f0.length c0, .int .i64 f1, .int .i64 f2] 137 (0, 0)) ∧ w0.heap.size ≤ g ∧ Kd.C k87 w0 A0 f0.length f0
theorem IsS137.grown {w0 W : World} {g : Nat} {f0 : List (S87)} {f1 : Int} {f2 : Int} {W1 : World} {row : Option Nat} (h : IsS137 w0 W g f0 f1 f2) (hw : W.grownBy W1 row) (hne : some g ≠ row) : IsS137 w0 W1 g f0 f1 f2 := by
 obtain ⟨A0, c0, hb, hg, hr0⟩ := h
 exact ⟨A0, c0, blk_grown hb hw hne, hg, hr0⟩
theorem IsS137.kept {w0 W : World} {g : Nat} {f0 : List (S87)} {f1 : Int} {f2 : Int} {W1 : World} {S : Nat → Prop} (h : IsS137 w0 W g f0 f1 f2) (hk : Kept W W1 S) (hne : ¬ S g) : IsS137 w0 W1 g f0 f1 f2 := by
 obtain ⟨A0, c0, hb, hg, hr0⟩ := h
 exact ⟨A0, c0, blk_kept hb hk hne, hg, hr0⟩
theorem IsS137.below {w0 W : World} {g : Nat} {f0 : List (S87)} {f1 : Int} {f2 : Int} {W1 : World} (h : IsS137 w0 W g f0 f1 f2) (hw : Below W.heap.size W W1) : IsS137 w0 W1 g f0 f1 f2 := h.grown (grown_of_below hw none) (by simp)
theorem IsS137.alloc {w0 W : World} {g : Nat} {f0 : List (S87)} {f1 : Int} {f2 : Int} (h : IsS137 w0 W g f0 f1 f2) (o : Obj) : IsS137 w0 (W.alloc o) g f0 f1 f2 := h.below (wA_ (Below.refl _ _) o)
theorem IsS137.drewN {w0 W : World} {g : Nat} {f0 : List (S87)} {f1 : Int} {f2 : Int} (h : IsS137 w0 W g f0 f1 f2) (m : Nat) : IsS137 w0 (W.drewN m) g f0 f1 f2 := h
theorem IsS137.drew {w0 W : World} {g : Nat} {f0 : List (S87)} {f1 : Int} {f2 : Int} (h : IsS137 w0 W g f0 f1 f2) : IsS137 w0 W.drew g f0 f1 f2 := h
theorem IsS137.at_ {w0 W : World} {g : Nat} {f0 : List (S87)} {f1 : Int} {f2 : Int} {w' : World} {m : Nat} (hq : W.drewN m = w') (h : IsS137 w0 W g f0 f1 f2) : IsS137 w0 w' g f0 f1 f2 := by subst hq; exact IsS137.drewN h m
theorem IsS137.apart {w0 W : World} {g : Nat} {f0 : List (S87)} {f1 : Int} {f2 : Int} {α : Type} {d : Kd α} {e : Nat} {base : Nat} {ok : Nat → Prop} {v : Value} {xs : List α} (h : IsS137 w0 W g f0 f1 f2) (ho : d.R e W base ok v xs) (ht : ∀ q, q ∈ e :: d.E → q ≠ 137) : d.R e W base (fun k => ok k ∧ k ≠ g) v xs := by
 obtain ⟨A0, c0, hb, hg, hr0⟩ := h
 exact Kd.R_types ho hb ht
theorem IsS137.own_ne {w0 W : World} {g : Nat} {f0 : List (S87)} {f1 : Int} {f2 : Int} {α : Type} {d : Kd α} {e : Nat} {base : Nat} {ok : Nat → Prop} {v : Value} {xs : List α} (h : IsS137 w0 W g f0 f1 f2) (ho : d.R e W base ok v xs) (ht : e ≠ 137) : some g ≠ v.ownBlock := by
 obtain ⟨A0, c0, hb, hg, hr0⟩ := h
 exact Kd.R_ne ho hb ht
theorem IsS137.lt {w0 W : World} {g : Nat} {f0 : List (S87)} {f1 : Int} {f2 : Int} (h : IsS137 w0 W g f0 f1 f2) : g < W.heap.size := by
 obtain ⟨A0, c0, hb, hg, hr0⟩ := h
 exact blk_lt hb
theorem IsS137.new (w0 W : World) (A0 : Option Addr) (c0 : Nat) (f0 : List (S87)) (f1 : Int) (f2 : Int) (hB : Below w0.heap.size w0 W) (hr0 : Kd.C k87 w0 A0 f0.length f0) : IsS137 w0 (W.alloc (.cells #[.slice A0 f0.length c0, .int .i64 f1, .int .i64 f2] 137)) W.heap.size f0 f1 f2 := ⟨A0, c0, by simpa using heap_alloc_new W _, hB.size, hr0⟩
end Go.Proofs.YtejnfbfikadpdaaGreatDoor.P
