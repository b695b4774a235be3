-- Written for this claim by the session's own run of the print, functions proved by hand put in.
import Derived.Test.YtojglflamecnkaaSq
import Derived.Test.YtojglflamecnkaaPx0
import Derived.Test.YtojglflamecnkaaPx14
namespace Go.Proofs.Ytojglflamecnkaa.P
open Go.RowKit Go.Proofs.YtojglflamecnkaaW.PrintWords Go.Proofs.YtojglflamecnkaaW.PrintLast Go.Proofs.YtojglflamecnkaaW.PrintMore
open Go.Proofs.YtojglflamecnkaaW.PrintWords renaming blk_alloc → bA_, blk_drewN → bN_, blk_drew → bD_, below_alloc → wA_, pw_below_drewN → wN_, below_drew1 → wD_, below_set → wS_, below_size → wZ_
open Go.Proofs.YtojglflamecnkaaW.PrintWords.Kd renaming C_alloc → cA_, C_drewN → cN_, C_drew → cD_, C_below → cB_
theorem c8_15 {w : World} {g : Nat} {t : TypeId} {x0 x1 x2 x3 x4 x5 x6 x7 : Value} (h : w.heap[g]? = some (.cells #[x0, x1, x2, x3, x4, x5, x6, x7] t (0, 0))) : w.cell? ⟨g, 0, none⟩ = some x0 ∧ w.cell? ⟨g, 1, none⟩ = some x1 ∧ w.cell? ⟨g, 2, none⟩ = some x2 ∧ w.cell? ⟨g, 3, none⟩ = some x3 ∧ w.cell? ⟨g, 4, none⟩ = some x4 ∧ w.cell? ⟨g, 5, none⟩ = some x5 ∧ w.cell? ⟨g, 6, none⟩ = some x6 ∧ w.cell? ⟨g, 7, none⟩ = some x7 ∧ w.frozen? ⟨g, 0, none⟩ = false ∧ w.frozen? ⟨g, 1, none⟩ = false ∧ w.frozen? ⟨g, 2, none⟩ = false ∧ w.frozen? ⟨g, 3, none⟩ = false ∧ w.frozen? ⟨g, 4, none⟩ = false ∧ w.frozen? ⟨g, 5, none⟩ = false ∧ w.frozen? ⟨g, 6, none⟩ = false ∧ w.frozen? ⟨g, 7, none⟩ = false :=
  ⟨(blk_cell h 0).trans rfl, (blk_cell h 1).trans rfl, (blk_cell h 2).trans rfl, (blk_cell h 3).trans rfl, (blk_cell h 4).trans rfl, (blk_cell h 5).trans rfl, (blk_cell h 6).trans rfl, (blk_cell h 7).trans rfl, blk_frozen h 0, blk_frozen h 1, blk_frozen h 2, blk_frozen h 3, blk_frozen h 4, blk_frozen h 5, blk_frozen h 6, blk_frozen h 7⟩
attribute [local go_sem] max2_int min2_int max_two min_two max_three min_three max_four min_four   -- for this text's walks alone
set_option linter.unusedVariables false
set_option linter.unusedSimpArgs false
mutual
def r6_rows.l0 : Nat → Int → ByteArray → List ByteArray → ByteArray → ByteArray → List ByteArray → List (S62) → List ByteArray → ByteArray → Option (Bool)
 | 0, _, _, _, _, _, _, _, _, _ => none
 | k + 1, x3, ai, aj, ak, al, ad, ac, af, am => if x3 < (ad.length : Int) then (if 0 ≤ x3 then ((r6_Variant.f k (rdOf ByteArray.empty ad x3)).bind fun bE => (r6_rows.l1 k x3 bE 0 ai aj ak al ad ac af am)) else (none)) else (r6_rows.l2 k 0 ai aj ak al ad ac af am)
def r6_rows.l1 : Nat → Int → Bool → Int → ByteArray → List ByteArray → ByteArray → ByteArray → List ByteArray → List (S62) → List ByteArray → ByteArray → Option (Bool)
 | 0, _, _, _, _, _, _, _, _, _, _, _ => none
 | k + 1, x3, x4, x5, ai, aj, ak, al, ad, ac, af, am => if x5 < x3 then (if x4 = true then (if 0 ≤ x5 then (if x5 < (ad.length : Int) then (if 0 ≤ x3 then (if x3 < (ad.length : Int) then (r6_rows.l1 k x3 ((rdOf ByteArray.empty ad x5).toList != (rdOf ByteArray.empty ad x3).toList) (wrap64 (x5 + 1)) ai aj ak al ad ac af am) else (none)) else (none)) else (none)) else (none)) else (r6_rows.l1 k x3 false (wrap64 (x5 + 1)) ai aj ak al ad ac af am)) else (if x4 = true then (r6_rows.l0 k (wrap64 (x3 + 1)) ai aj ak al ad ac af am) else (some false))
def r6_rows.l2 : Nat → Int → ByteArray → List ByteArray → ByteArray → ByteArray → List ByteArray → List (S62) → List ByteArray → ByteArray → Option (Bool)
 | 0, _, _, _, _, _, _, _, _, _ => none
 | k + 1, x6, ai, aj, ak, al, ad, ac, af, am => if x6 < (ac.length : Int) then (if 0 ≤ x6 then ((r6_Singleton.f k ((rd_T62 ac x6).f0)).bind fun aE => ((r6_subs.f k ((rd_T62 ac x6).f1) 2).bind fun aB => (r6_rows.l3 k x6 aE aB 0 ai aj ak al ad ac af am))) else (none)) else ((r6_subs.f k af 1).bind fun bK => (some bK))
def r6_rows.l3 : Nat → Int → Bool → Bool → Int → ByteArray → List ByteArray → ByteArray → ByteArray → List ByteArray → List (S62) → List ByteArray → ByteArray → Option (Bool)
 | 0, _, _, _, _, _, _, _, _, _, _, _, _ => none
 | k + 1, x6, x7, x8, x9, ai, aj, ak, al, ad, ac, af, am => if x9 < x6 then (if x7 = true then (if 0 ≤ x9 then (if x9 < (ac.length : Int) then (if 0 ≤ x6 then (if x6 < (ac.length : Int) then (r6_rows.l3 k x6 (((rd_T62 ac x9).f0).toList != ((rd_T62 ac x6).f0).toList) x8 (wrap64 (x9 + 1)) ai aj ak al ad ac af am) else (none)) else (none)) else (none)) else (none)) else (r6_rows.l3 k x6 false x8 (wrap64 (x9 + 1)) ai aj ak al ad ac af am)) else (if x7 = true then (if x8 = true then (if 0 ≤ x6 then (if x6 < (ac.length : Int) then (if (((rd_T62 ac x6).f1).length : Int) = 0 then (some false) else (r6_rows.l2 k (wrap64 (x6 + 1)) ai aj ak al ad ac af am)) else (none)) else (none)) else (some false)) else (some false))
end
def r6_rows.f (k : Nat) (ar : ByteArray) (aq : List ByteArray) (au : ByteArray) (av : ByteArray) (ae : List ByteArray) (ab : List (S62)) (ao : List ByteArray) (aw : ByteArray) : Option (Bool) := r6_rows.l0 k 0 ar aq au av ae ab ao aw
set_option maxHeartbeats 8000000 in
set_option maxRecDepth 100000 in
theorem r6_rows.calls (k : Nat) (ar : ByteArray) (aF : Option Addr) (aG : Nat) (aq : List ByteArray) (au : ByteArray) (av : ByteArray) (bB : Option Addr) (aH : Nat) (ae : List ByteArray) (bC : Option Addr) (aI : Nat) (ab : List (S62)) (aJ : Option Addr) (aK : Nat) (ao : List ByteArray) (aw : ByteArray) (r : Bool) (w : World) (hr0_1 : Kd.C Kd.string w aF aq.length aq) (hc0_1 : aq.length ≤ aG) (hr0_4 : Kd.C Kd.string w bB ae.length ae) (hc0_4 : ae.length ≤ aH) (hr0_5 : Kd.C k62 w bC ab.length ab) (hc0_5 : ab.length ≤ aI) (hr0_6 : Kd.C Kd.string w aJ ao.length ao) (hc0_6 : ao.length ≤ aK) (h : r6_rows.f k ar aq au av ae ab ao aw = some r) :
  Calls Try.prog 48 #[.agg #[.string ar, .slice aF aq.length aG, .string au, .string av, .slice bB ae.length aH, .slice bC ab.length aI, .slice aJ ao.length aK, .string aw]] w fun e w' => e = .returned (.bool r) ∧ Below w.heap.size w w' := by
 have hu34 := Try.underlying34
 have dQ := Aside0.mk hr0_1
 have dR := Aside0.mk hc0_1
 clear hr0_1 hc0_1
 have bF := Aside0.mk hr0_4
 have dS := Aside0.mk hc0_4
 clear hr0_4 hc0_4
 have aC := Aside0.mk hr0_5
 have dT := Aside0.mk hc0_5
 clear hr0_5 hc0_5
 have cc := Aside0.mk hr0_6
 have cd := Aside0.mk hc0_6
 clear hr0_6 hc0_6
 have HB := Aside0.mk (Below.refl w.heap.size w)
 have H : (r6_rows.l0 k 0 ar aq au av ae ab ao aw) = some r := h
 clear h
 have H' := Aside0.mk H
 clear H
 go_enter Try.func48, Try.ntmps48
 go_wp2_with (first | ((with_reducible refine gate_dst (N := 1) rfl ?_); (try (refine gate_guard (by rfl) ?_; dsimp only)); refine box_event ?hg (N := 1) ?hd (cs := #[.string ar, .slice aF aq.length aG, .string au, .string av, .slice bB ae.length aH, .slice bC ab.length aI, .slice aJ ao.length aK, .string aw]) (t := 34) ?hr ?_; (case hd => rfl); (case hg => rfl); (case hr => first | (go_simp; done) | (go_simp; rfl)); intro aD hg w2 hbox hb; have dU := Aside0.mk (below_step (Qw HB.out) hb); have dV := Aside0.mk (hbox); have dW := Aside0.mk ((by rw [hg]; exact (wZ_ (Qw HB.out)) : w.heap.size ≤ aD)); have dX := Aside0.mk ((by rw [hg]; exact (wZ_ (Qw HB.out)) : w.heap.size ≤ aD)); clear HB; have HB := dU; have ag := dV; have GW352 := dW; have ap := dX; clear dU dV dW dX; clear hb hbox hg))
 go_loopg [3] k (fun kq v3 w' => ∃ (ah : Int), v3 = .int .i64 ah ∧ Aside0 (r6_rows.l0 kq ah ar aq au av ae ab ao aw = some r) ∧ Aside0 (kq ≤ k) ∧ Aside0 (w'.heap[aD]? = some (.cells #[.string ar, (.slice aF aq.length aG), .string au, .string av, (.slice bB ae.length aH), (.slice bC ab.length aI), (.slice aJ ao.length aK), .string aw] 34 (0, 0))) ∧ Aside0 (Below w.heap.size w w'))
 case atStart => exact ⟨(0), Qs, H', ⟨Nat.le_refl _⟩, ⟨Qb ag.out⟩, ⟨Qv HB.out ap.out⟩⟩
 case round =>
  clear H'
  try clear p2
  obtain ⟨ah, rfl, HA, HK1, ag, HB⟩ := hrel
  cases gk with
  | zero => exact absurd HA.out (by simp [r6_rows.l0])
  | succ k1 =>
   have H := HA.out
   clear HA
   simp only [r6_rows.l0] at H
   by_cases c3 : ah < (ae.length : Int)
   ·rw [if_pos c3] at H
    have bL : decide (ah < (ae.length : Int)) = true := decide_eq_true c3
    clear c3
    by_cases c4 : 0 ≤ ah
    ·rw [if_pos c4] at H
     have b8 : decide (0 ≤ ah) = true := decide_eq_true c4
     clear c4
     replace H := Option.bind_eq_some_iff.mp H
     obtain ⟨bE, dY, H⟩ := H
     replace H : (r6_rows.l1 k1 ah bE 0 ar aq au av ae ab ao aw) = some r := H
     have A5 := Aside0.mk dY
     clear dY
     have H' := Aside0.mk H
     clear H
     obtain ⟨aL, aM, aN, aO, aP, aQ, aR, aS, aT, aU, aV, aW, aX, aY, aZ, a1⟩ := c8_15 ag.out
     have p353 : 0 ≤ (ah : Int) := of_decide_eq_true Qa
     have q353 : ah < (ae.length : Int) := of_decide_eq_true Qa
     obtain ⟨ad353, e353, hx353_0⟩ := Kd.at_string bF.out ah p353 q353
     cases e353
     replace hx353_0 := (HB.out.cell (World.block_lt_of_cell? w _ hx353_0)).trans hx353_0
     replace p353 := eq_true p353
     replace q353 := eq_true q353
     go_wp2_with (first | (go_at_call 52; (with_reducible refine (r6_Variant.calls k1 (rdOf ByteArray.empty ae ah) bE _ A5.out).mono ?_); rintro e w' ⟨rfl, ⟨nd, rfl⟩⟩; (try exact Qd)))
     go_loopg [4, 5] k1 (fun kq v4 v5 w' => ∃ (bG : Bool) (ax : Int), v4 = .bool bG ∧ v5 = .int .i64 ax ∧ Aside0 (r6_rows.l1 kq ah bG ax ar aq au av ae ab ao aw = some r) ∧ Aside0 (kq ≤ k1) ∧ Aside0 (w'.heap[aD]? = some (.cells #[.string ar, (.slice aF aq.length aG), .string au, .string av, (.slice (some ad353) ae.length aH), (.slice bC ab.length aI), (.slice aJ ao.length aK), .string aw] 34 (0, 0))) ∧ Aside0 (Below w.heap.size w w'))
     case atStart => exact ⟨(bE), (0), Qs, Qs, H', ⟨Nat.le_refl _⟩, ⟨Qb ag.out⟩, ⟨Qv HB.out ap.out⟩⟩
     case round =>
      clear H'
      try clear p2; try clear c3; try clear bL; try clear p3; try clear q3; try clear hx3; try clear c4; try clear b8
      try clear aL aM aN aO aP aQ aR aS; try clear aT aU aV aW aX aY aZ a1
      try clear hx353_0; try clear p2; try clear p353; try clear q353
      obtain ⟨bG, ax, rfl, rfl, HA, HK2, ag, HB⟩ := hrel
      cases gk with
      | zero => exact absurd HA.out (by simp [r6_rows.l1])
      | succ k2 =>
       have H := HA.out
       clear HA
       simp only [r6_rows.l1] at H
       by_cases c7 : ax < ah
       ·rw [if_pos c7] at H
        have b9 : decide (ax < ah) = true := decide_eq_true c7
        clear c7
        by_cases c8 : bG = true
        ·subst c8
         have H1 : (if 0 ≤ ax then (if ax < (ae.length : Int) then (if 0 ≤ ah then (if ah < (ae.length : Int) then (r6_rows.l1 k2 ah ((rdOf ByteArray.empty ae ax).toList != (rdOf ByteArray.empty ae ah).toList) (wrap64 (ax + 1)) ar aq au av ae ab ao aw) else (none)) else (none)) else (none)) else (none)) = some r := by rw [if_pos rfl] at H; exact H
         clear H
         have H := H1
         clear H1
         by_cases c9 : 0 ≤ ax
         ·rw [if_pos c9] at H
          have ce : decide (0 ≤ ax) = true := decide_eq_true c9
          clear c9
          by_cases c10 : ax < (ae.length : Int)
          ·rw [if_pos c10] at H
           have b4 : decide (ax < (ae.length : Int)) = true := decide_eq_true c10
           clear c10
           by_cases c11 : 0 ≤ ah
           ·rw [if_pos c11] at H
            have b5 : decide (0 ≤ ah) = true := decide_eq_true c11
            clear c11
            by_cases c12 : ah < (ae.length : Int)
            ·rw [if_pos c12] at H
             have b6 : decide (ah < (ae.length : Int)) = true := decide_eq_true c12
             clear c12
             have H' := Aside0.mk H
             clear H
             obtain ⟨a2, a3, a4, a5, a6, a7, a8, a9, ba, bb, bc, bd, be, bf, bg, bh⟩ := c8_15 ag.out
             have p355 : 0 ≤ (ax : Int) := of_decide_eq_true Qa
             have q355 : ax < (ae.length : Int) := of_decide_eq_true Qa
             obtain ⟨ad355, e355, hx355_0⟩ := Kd.at_string bF.out ax p355 q355
             obtain rfl : ad353 = ad355 := (by injection e355)
             replace hx355_0 := (HB.out.cell (World.block_lt_of_cell? w _ hx355_0)).trans hx355_0
             replace p355 := eq_true p355
             replace q355 := eq_true q355
             have p356 : 0 ≤ (ah : Int) := of_decide_eq_true Qa
             have q356 : ah < (ae.length : Int) := of_decide_eq_true Qa
             obtain ⟨ad356, e356, hx356_0⟩ := Kd.at_string bF.out ah p356 q356
             obtain rfl : ad353 = ad356 := (by injection e356)
             replace hx356_0 := (HB.out.cell (World.block_lt_of_cell? w _ hx356_0)).trans hx356_0
             replace p356 := eq_true p356
             replace q356 := eq_true q356
             go_wp2
             repeat (go_quiet (fail); try go_wp2)
             go_roundg k2
             case measure => have := HK1.out; have := HK2.out; omega
             case rel => exact ⟨(((rdOf ByteArray.empty ae ax).toList != (rdOf ByteArray.empty ae ah).toList)), (wrap64 (ax + 1)), Qs, Qs, H', ⟨by have := HK1.out; have := HK2.out; omega⟩, ⟨Qb ag.out⟩, ⟨Qv HB.out ap.out⟩⟩
            ·rw [if_neg c12] at H
             exact absurd H (by simp)
           ·rw [if_neg c11] at H
            exact absurd H (by simp)
          ·rw [if_neg c10] at H
           exact absurd H (by simp)
         ·rw [if_neg c9] at H
          exact absurd H (by simp)
        ·replace c8 := Bool.eq_false_iff.mpr c8
         subst c8
         have H1 : (r6_rows.l1 k2 ah false (wrap64 (ax + 1)) ar aq au av ae ab ao aw) = some r := by rw [if_neg (show ¬ (false = true) by decide)] at H; exact H
         clear H
         have H := H1
         clear H1
         have H' := Aside0.mk H
         clear H
         go_wp2
         repeat (go_quiet (fail); try go_wp2)
         go_roundg k2
         case measure => have := HK1.out; have := HK2.out; omega
         case rel => exact ⟨(false), (wrap64 (ax + 1)), Qs, Qs, H', ⟨by have := HK1.out; have := HK2.out; omega⟩, ⟨Qb ag.out⟩, ⟨Qv HB.out ap.out⟩⟩
       ·rw [if_neg c7] at H
        have b9 : decide (ax < ah) = false := decide_eq_false c7
        clear c7
        by_cases c14 : bG = true
        ·subst c14
         have H1 : (r6_rows.l0 k2 (wrap64 (ah + 1)) ar aq au av ae ab ao aw) = some r := by rw [if_pos rfl] at H; exact H
         clear H
         have H := H1
         clear H1
         have H' := Aside0.mk H
         clear H
         go_wp2
         repeat (go_quiet (fail); try go_wp2)
         go_roundg k2
         case measure => have := HK1.out; have := HK2.out; omega
         case rel => exact ⟨(wrap64 (ah + 1)), Qs, H', ⟨by have := HK1.out; have := HK2.out; omega⟩, ⟨Qb ag.out⟩, ⟨Qv HB.out ap.out⟩⟩
        ·replace c14 := Bool.eq_false_iff.mpr c14
         subst c14
         have H1 : (some false) = some r := by rw [if_neg (show ¬ (false = true) by decide)] at H; exact H
         clear H
         have H := H1
         clear H1
         obtain rfl := Option.some.inj H
         go_wp2
         repeat (go_quiet (fail); try go_wp2)
         go_ret
         exact ⟨Qe, Qv HB.out ap.out⟩
    ·rw [if_neg c4] at H
     exact absurd H (by simp)
   ·rw [if_neg c3] at H
    have bL : decide (ah < (ae.length : Int)) = false := decide_eq_false c3
    clear c3
    have H' := Aside0.mk H
    clear H
    obtain ⟨bi, bj, bk, bm, bn, bo, bp, bq, br, bs, bu, bv, bw, bx, bz, bA⟩ := c8_15 ag.out
    go_wp2
    repeat (go_quiet (fail); try go_wp2)
    go_loopg [6] k1 (fun kq v6 w' => ∃ (aa : Int), v6 = .int .i64 aa ∧ Aside0 (r6_rows.l2 kq aa ar aq au av ae ab ao aw = some r) ∧ Aside0 (kq ≤ k1) ∧ Aside0 (w'.heap[aD]? = some (.cells #[.string ar, (.slice aF aq.length aG), .string au, .string av, (.slice bB ae.length aH), (.slice bC ab.length aI), (.slice aJ ao.length aK), .string aw] 34 (0, 0))) ∧ Aside0 (Below w.heap.size w w'))
    case atStart => exact ⟨(0), Qs, H', ⟨Nat.le_refl _⟩, ⟨Qb ag.out⟩, ⟨Qv HB.out ap.out⟩⟩
    case round =>
     clear H'
     try clear c1; try clear p2; try clear c3; try clear bL; try clear p3; try clear q3; try clear hx3; try clear c4; try clear b8; try clear p6; try clear c7; try clear b9; try clear c8; try clear c9; try clear ce; try clear c10; try clear b4; try clear c11; try clear b5; try clear c12; try clear b6; try clear c14
     try clear a2 a3 a4 a5 a6 a7 a8 a9; try clear bi bj bk bm bn bo bp bq; try clear aL aM aN aO aP aQ aR aS; try clear ba bb bc bd be bf bg bh; try clear br bs bu bv bw bx bz bA; try clear aT aU aV aW aX aY aZ a1
     try clear hx353_0; try clear hx355_0; try clear hx356_0; try clear p2; try clear p3; try clear p353; try clear p355; try clear p356; try clear q3; try clear q353; try clear q355; try clear q356
     obtain ⟨aa, rfl, HA, HK2, ag, HB⟩ := hrel
     cases gk with
     | zero => exact absurd HA.out (by simp [r6_rows.l2])
     | succ k2 =>
      have H := HA.out
      clear HA
      simp only [r6_rows.l2] at H
      by_cases c16 : aa < (ab.length : Int)
      ·rw [if_pos c16] at H
       have b7 : decide (aa < (ab.length : Int)) = true := decide_eq_true c16
       clear c16
       by_cases c17 : 0 ≤ aa
       ·rw [if_pos c17] at H
        have cf : decide (0 ≤ aa) = true := decide_eq_true c17
        clear c17
        replace H := Option.bind_eq_some_iff.mp H
        obtain ⟨aE, cg, H⟩ := H
        replace H : ((r6_subs.f k2 ((rd_T62 ab aa).f1) 2).bind fun aB => (r6_rows.l3 k2 aa aE aB 0 ar aq au av ae ab ao aw)) = some r := H
        have dI := Aside0.mk cg
        clear cg
        replace H := Option.bind_eq_some_iff.mp H
        obtain ⟨aB, ch, H⟩ := H
        replace H : (r6_rows.l3 k2 aa aE aB 0 ar aq au av ae ab ao aw) = some r := H
        have dJ := Aside0.mk ch
        clear ch
        have H' := Aside0.mk H
        clear H
        obtain ⟨bM, bN, bO, bP, bQ, bR, bS, bT, bU, bV, bW, bX, bY, bZ, b0, b1⟩ := c8_15 ag.out
        have p358 : 0 ≤ (aa : Int) := of_decide_eq_true Qa
        have q358 : aa < (ab.length : Int) := of_decide_eq_true Qa
        obtain ⟨ad358, dK, dL, e358, hx358_0, hx358_1, hl358_1, hi358_1⟩ := at_T62 aC.out aa p358 q358
        cases e358
        replace hx358_0 := (HB.out.cell (World.block_lt_of_cell? w _ hx358_0)).trans hx358_0
        replace hx358_1 := (HB.out.cell (World.block_lt_of_cell? w _ hx358_1)).trans hx358_1
        have cm := Aside0.mk hi358_1
        have cn := Aside0.mk hl358_1
        clear hi358_1 hl358_1
        replace p358 := eq_true p358
        replace q358 := eq_true q358
        go_wp2_with (first | (go_at_call 54; (with_reducible refine (r6_Singleton.calls k2 ((rd_T62 ab aa).f0) aE _ dI.out).mono ?_); rintro e w' ⟨rfl, ⟨nd, rfl⟩⟩; (try exact Qd); have p360 : 0 ≤ (aa : Int) := of_decide_eq_true Qa; have q360 : aa < (ab.length : Int) := of_decide_eq_true Qa; obtain ⟨ad360, bH, bI, e360, hx360_0, hx360_1, hl360_1, hi360_1⟩ := at_T62 aC.out aa p360 q360; obtain rfl : ad358 = ad360 := (by injection e360); replace hx360_0 := (HB.out.cell (World.block_lt_of_cell? w _ hx360_0)).trans hx360_0; replace hx360_1 := (HB.out.cell (World.block_lt_of_cell? w _ hx360_1)).trans hx360_1; have az := Aside0.mk hi360_1; have aA := Aside0.mk hl360_1; clear hi360_1 hl360_1; replace p360 := eq_true p360; replace q360 := eq_true q360; have ea_ := Option.some.inj (hx358_1.symm.trans hx360_1); injection ea_ with ea_ en_ ec_; subst ea_; subst ec_; clear en_) | (go_at_call 44; (with_reducible refine (r6_subs.calls k2 _ _ ((rd_T62 ab aa).f1) 2 aB _ ?side1 ?side2 dJ.out).mono ?_); (case side1 => repeat (first | exact (cB_ az.out (Qv HB.out ap.out)) | (with_reducible refine cA_ ?_ _) | (with_reducible refine cN_ ?_ _) | (with_reducible refine cD_ ?_))); (case side2 => exact aA.out); rintro e w' ⟨rfl, ⟨nd, rfl⟩⟩; (try exact Qd)))
        repeat (go_quiet (first | (go_at_call 54; (with_reducible refine (r6_Singleton.calls k2 ((rd_T62 ab aa).f0) aE _ dI.out).mono ?_); rintro e w' ⟨rfl, ⟨nd, rfl⟩⟩; (try exact Qd); have p360 : 0 ≤ (aa : Int) := of_decide_eq_true Qa; have q360 : aa < (ab.length : Int) := of_decide_eq_true Qa; obtain ⟨ad360, bH, bI, e360, hx360_0, hx360_1, hl360_1, hi360_1⟩ := at_T62 aC.out aa p360 q360; obtain rfl : ad358 = ad360 := (by injection e360); replace hx360_0 := (HB.out.cell (World.block_lt_of_cell? w _ hx360_0)).trans hx360_0; replace hx360_1 := (HB.out.cell (World.block_lt_of_cell? w _ hx360_1)).trans hx360_1; have az := Aside0.mk hi360_1; have aA := Aside0.mk hl360_1; clear hi360_1 hl360_1; replace p360 := eq_true p360; replace q360 := eq_true q360; have ea_ := Option.some.inj (hx358_1.symm.trans hx360_1); injection ea_ with ea_ en_ ec_; subst ea_; subst ec_; clear en_) | (go_at_call 44; (with_reducible refine (r6_subs.calls k2 _ _ ((rd_T62 ab aa).f1) 2 aB _ ?side1 ?side2 dJ.out).mono ?_); (case side1 => repeat (first | exact (cB_ az.out (Qv HB.out ap.out)) | (with_reducible refine cA_ ?_ _) | (with_reducible refine cN_ ?_ _) | (with_reducible refine cD_ ?_))); (case side2 => exact aA.out); rintro e w' ⟨rfl, ⟨nd, rfl⟩⟩; (try exact Qd))); try go_wp2_with (first | (go_at_call 54; (with_reducible refine (r6_Singleton.calls k2 ((rd_T62 ab aa).f0) aE _ dI.out).mono ?_); rintro e w' ⟨rfl, ⟨nd, rfl⟩⟩; (try exact Qd); have p360 : 0 ≤ (aa : Int) := of_decide_eq_true Qa; have q360 : aa < (ab.length : Int) := of_decide_eq_true Qa; obtain ⟨ad360, bH, bI, e360, hx360_0, hx360_1, hl360_1, hi360_1⟩ := at_T62 aC.out aa p360 q360; obtain rfl : ad358 = ad360 := (by injection e360); replace hx360_0 := (HB.out.cell (World.block_lt_of_cell? w _ hx360_0)).trans hx360_0; replace hx360_1 := (HB.out.cell (World.block_lt_of_cell? w _ hx360_1)).trans hx360_1; have az := Aside0.mk hi360_1; have aA := Aside0.mk hl360_1; clear hi360_1 hl360_1; replace p360 := eq_true p360; replace q360 := eq_true q360; have ea_ := Option.some.inj (hx358_1.symm.trans hx360_1); injection ea_ with ea_ en_ ec_; subst ea_; subst ec_; clear en_) | (go_at_call 44; (with_reducible refine (r6_subs.calls k2 _ _ ((rd_T62 ab aa).f1) 2 aB _ ?side1 ?side2 dJ.out).mono ?_); (case side1 => repeat (first | exact (cB_ az.out (Qv HB.out ap.out)) | (with_reducible refine cA_ ?_ _) | (with_reducible refine cN_ ?_ _) | (with_reducible refine cD_ ?_))); (case side2 => exact aA.out); rintro e w' ⟨rfl, ⟨nd, rfl⟩⟩; (try exact Qd))))
        go_loopg [7, 9] k2 (fun kq v7 v9 w' => ∃ (bJ : Bool) (ay : Int), v7 = .bool bJ ∧ v9 = .int .i64 ay ∧ Aside0 (r6_rows.l3 kq aa bJ aB ay ar aq au av ae ab ao aw = some r) ∧ Aside0 (kq ≤ k2) ∧ Aside0 (w'.heap[aD]? = some (.cells #[.string ar, (.slice aF aq.length aG), .string au, .string av, (.slice bB ae.length aH), (.slice (some ad358) ab.length aI), (.slice aJ ao.length aK), .string aw] 34 (0, 0))) ∧ Aside0 (Below w.heap.size w w'))
        case atStart => exact ⟨(aE), (0), Qs, Qs, H', ⟨Nat.le_refl _⟩, ⟨Qb ag.out⟩, ⟨Qv HB.out ap.out⟩⟩
        case round =>
         clear H'
         try clear c1; try clear p2; try clear c3; try clear bL; try clear p3; try clear q3; try clear hx3; try clear c4; try clear b8; try clear p6; try clear c7; try clear b9; try clear c8; try clear c9; try clear ce; try clear c10; try clear b4; try clear c11; try clear b5; try clear c12; try clear b6; try clear c14; try clear c16; try clear b7; try clear c17; try clear cf
         try clear a2 a3 a4 a5 a6 a7 a8 a9; try clear bi bj bk bm bn bo bp bq; try clear bM bN bO bP bQ bR bS bT; try clear aL aM aN aO aP aQ aR aS; try clear ba bb bc bd be bf bg bh; try clear br bs bu bv bw bx bz bA; try clear bU bV bW bX bY bZ b0 b1; try clear aT aU aV aW aX aY aZ a1
         try clear hx353_0; try clear hx355_0; try clear hx356_0; try clear hx358_0; try clear hx358_1; try clear hx360_0; try clear hx360_1; try clear p2; try clear p3; try clear p353; try clear p355; try clear p356; try clear p358; try clear p360; try clear p6; try clear q3; try clear q353; try clear q355; try clear q356; try clear q358; try clear q360
         obtain ⟨bJ, ay, rfl, rfl, HA, HK3, ag, HB⟩ := hrel
         cases gk with
         | zero => exact absurd HA.out (by simp [r6_rows.l3])
         | succ k3 =>
          have H := HA.out
          clear HA
          simp only [r6_rows.l3] at H
          by_cases c21 : ay < aa
          ·rw [if_pos c21] at H
           have ci : decide (ay < aa) = true := decide_eq_true c21
           clear c21
           by_cases c22 : bJ = true
           ·subst c22
            have H1 : (if 0 ≤ ay then (if ay < (ab.length : Int) then (if 0 ≤ aa then (if aa < (ab.length : Int) then (r6_rows.l3 k3 aa (((rd_T62 ab ay).f0).toList != ((rd_T62 ab aa).f0).toList) aB (wrap64 (ay + 1)) ar aq au av ae ab ao aw) else (none)) else (none)) else (none)) else (none)) = some r := by rw [if_pos rfl] at H; exact H
            clear H
            have H := H1
            clear H1
            by_cases c23 : 0 ≤ ay
            ·rw [if_pos c23] at H
             have dZ : decide (0 ≤ ay) = true := decide_eq_true c23
             clear c23
             by_cases c24 : ay < (ab.length : Int)
             ·rw [if_pos c24] at H
              have d0 : decide (ay < (ab.length : Int)) = true := decide_eq_true c24
              clear c24
              by_cases c25 : 0 ≤ aa
              ·rw [if_pos c25] at H
               have d1 : decide (0 ≤ aa) = true := decide_eq_true c25
               clear c25
               by_cases c26 : aa < (ab.length : Int)
               ·rw [if_pos c26] at H
                have d2 : decide (aa < (ab.length : Int)) = true := decide_eq_true c26
                clear c26
                have H' := Aside0.mk H
                clear H
                obtain ⟨co, cp, cq, cr, ct, cu, cv, cw, cx, cy, cz, cA, cB, cC, cD, cE⟩ := c8_15 ag.out
                have p362 : 0 ≤ (ay : Int) := of_decide_eq_true Qa
                have q362 : ay < (ab.length : Int) := of_decide_eq_true Qa
                obtain ⟨ad362, dM, dN, e362, hx362_0, hx362_1, hl362_1, hi362_1⟩ := at_T62 aC.out ay p362 q362
                obtain rfl : ad358 = ad362 := (by injection e362)
                replace hx362_0 := (HB.out.cell (World.block_lt_of_cell? w _ hx362_0)).trans hx362_0
                replace hx362_1 := (HB.out.cell (World.block_lt_of_cell? w _ hx362_1)).trans hx362_1
                have cF := Aside0.mk hi362_1
                have cG := Aside0.mk hl362_1
                clear hi362_1 hl362_1
                replace p362 := eq_true p362
                replace q362 := eq_true q362
                have p363 : 0 ≤ (aa : Int) := of_decide_eq_true Qa
                have q363 : aa < (ab.length : Int) := of_decide_eq_true Qa
                obtain ⟨ad363, dO, dP, e363, hx363_0, hx363_1, hl363_1, hi363_1⟩ := at_T62 aC.out aa p363 q363
                obtain rfl : ad358 = ad363 := (by injection e363)
                replace hx363_0 := (HB.out.cell (World.block_lt_of_cell? w _ hx363_0)).trans hx363_0
                replace hx363_1 := (HB.out.cell (World.block_lt_of_cell? w _ hx363_1)).trans hx363_1
                have cH := Aside0.mk hi363_1
                have cI := Aside0.mk hl363_1
                clear hi363_1 hl363_1
                replace p363 := eq_true p363
                replace q363 := eq_true q363
                go_wp2
                repeat (go_quiet (fail); try go_wp2)
                go_roundg k3
                case measure => have := HK1.out; have := HK2.out; have := HK3.out; omega
                case rel => exact ⟨((((rd_T62 ab ay).f0).toList != ((rd_T62 ab aa).f0).toList)), (wrap64 (ay + 1)), Qs, Qs, H', ⟨by have := HK1.out; have := HK2.out; have := HK3.out; omega⟩, ⟨Qb ag.out⟩, ⟨Qv HB.out ap.out⟩⟩
               ·rw [if_neg c26] at H
                exact absurd H (by simp)
              ·rw [if_neg c25] at H
               exact absurd H (by simp)
             ·rw [if_neg c24] at H
              exact absurd H (by simp)
            ·rw [if_neg c23] at H
             exact absurd H (by simp)
           ·replace c22 := Bool.eq_false_iff.mpr c22
            subst c22
            have H1 : (r6_rows.l3 k3 aa false aB (wrap64 (ay + 1)) ar aq au av ae ab ao aw) = some r := by rw [if_neg (show ¬ (false = true) by decide)] at H; exact H
            clear H
            have H := H1
            clear H1
            have H' := Aside0.mk H
            clear H
            go_wp2
            repeat (go_quiet (fail); try go_wp2)
            go_roundg k3
            case measure => have := HK1.out; have := HK2.out; have := HK3.out; omega
            case rel => exact ⟨(false), (wrap64 (ay + 1)), Qs, Qs, H', ⟨by have := HK1.out; have := HK2.out; have := HK3.out; omega⟩, ⟨Qb ag.out⟩, ⟨Qv HB.out ap.out⟩⟩
          ·rw [if_neg c21] at H
           have ci : decide (ay < aa) = false := decide_eq_false c21
           clear c21
           by_cases c28 : bJ = true
           ·subst c28
            have H1 : (if aB = true then (if 0 ≤ aa then (if aa < (ab.length : Int) then (if (((rd_T62 ab aa).f1).length : Int) = 0 then (some false) else (r6_rows.l2 k3 (wrap64 (aa + 1)) ar aq au av ae ab ao aw)) else (none)) else (none)) else (some false)) = some r := by rw [if_pos rfl] at H; exact H
            clear H
            have H := H1
            clear H1
            by_cases c29 : aB = true
            ·subst c29
             have H1 : (if 0 ≤ aa then (if aa < (ab.length : Int) then (if (((rd_T62 ab aa).f1).length : Int) = 0 then (some false) else (r6_rows.l2 k3 (wrap64 (aa + 1)) ar aq au av ae ab ao aw)) else (none)) else (none)) = some r := by rw [if_pos rfl] at H; exact H
             clear H
             have H := H1
             clear H1
             by_cases c30 : 0 ≤ aa
             ·rw [if_pos c30] at H
              have d3 : decide (0 ≤ aa) = true := decide_eq_true c30
              clear c30
              by_cases c31 : aa < (ab.length : Int)
              ·rw [if_pos c31] at H
               have d4 : decide (aa < (ab.length : Int)) = true := decide_eq_true c31
               clear c31
               by_cases c32 : (((rd_T62 ab aa).f1).length : Int) = 0
               ·rw [if_pos c32] at H
                have cj : ((((rd_T62 ab aa).f1).length : Int) == 0) = true := beq_iff_eq.mpr c32
                have ck : ((((rd_T62 ab aa).f1).length : Int) != 0) = false := bne_eq_false_iff_eq.mpr c32
                clear c32
                obtain rfl := Option.some.inj H
                obtain ⟨cJ, cK, cM, cN, cO, cP, cQ, cS, cU, cV, cW, cX, cY, cZ, c0, da⟩ := c8_15 ag.out
                have p364 : 0 ≤ (aa : Int) := of_decide_eq_true Qa
                have q364 : aa < (ab.length : Int) := of_decide_eq_true Qa
                obtain ⟨ad364, ca, cb, e364, hx364_0, hx364_1, hl364_1, hi364_1⟩ := at_T62 aC.out aa p364 q364
                obtain rfl : ad358 = ad364 := (by injection e364)
                replace hx364_0 := (HB.out.cell (World.block_lt_of_cell? w _ hx364_0)).trans hx364_0
                replace hx364_1 := (HB.out.cell (World.block_lt_of_cell? w _ hx364_1)).trans hx364_1
                have b2 := Aside0.mk hi364_1
                have b3 := Aside0.mk hl364_1
                clear hi364_1 hl364_1
                replace p364 := eq_true p364
                replace q364 := eq_true q364
                go_wp2
                repeat (go_quiet (fail); try go_wp2)
                go_ret
                exact ⟨Qe, Qv HB.out ap.out⟩
               ·rw [if_neg c32] at H
                have cj : ((((rd_T62 ab aa).f1).length : Int) == 0) = false := beq_eq_false_iff_ne.mpr c32
                have ck : ((((rd_T62 ab aa).f1).length : Int) != 0) = true := bne_iff_ne.mpr c32
                have d5 : ¬ (((rd_T62 ab aa).f1) = []) := fun h_ => c32 (by rw [h_]; rfl)
                have H' := Aside0.mk H
                clear H
                obtain ⟨db, dc, dd, de, df, dg, dh, di, dj, dk, dl, dm, dn, dp, dq, dr⟩ := c8_15 ag.out
                have p364 : 0 ≤ (aa : Int) := of_decide_eq_true Qa
                have q364 : aa < (ab.length : Int) := of_decide_eq_true Qa
                obtain ⟨ad364, ca, cb, e364, hx364_0, hx364_1, hl364_1, hi364_1⟩ := at_T62 aC.out aa p364 q364
                obtain rfl : ad358 = ad364 := (by injection e364)
                replace hx364_0 := (HB.out.cell (World.block_lt_of_cell? w _ hx364_0)).trans hx364_0
                replace hx364_1 := (HB.out.cell (World.block_lt_of_cell? w _ hx364_1)).trans hx364_1
                have b2 := Aside0.mk hi364_1
                have b3 := Aside0.mk hl364_1
                clear hi364_1 hl364_1
                replace p364 := eq_true p364
                replace q364 := eq_true q364
                go_wp2
                repeat (go_quiet (fail); try go_wp2)
                go_roundg k3
                case measure => have := HK1.out; have := HK2.out; have := HK3.out; omega
                case rel => exact ⟨(wrap64 (aa + 1)), Qs, H', ⟨by have := HK1.out; have := HK2.out; have := HK3.out; omega⟩, ⟨Qb ag.out⟩, ⟨Qv HB.out ap.out⟩⟩
              ·rw [if_neg c31] at H
               exact absurd H (by simp)
             ·rw [if_neg c30] at H
              exact absurd H (by simp)
            ·replace c29 := Bool.eq_false_iff.mpr c29
             subst c29
             have H1 : (some false) = some r := by rw [if_neg (show ¬ (false = true) by decide)] at H; exact H
             clear H
             have H := H1
             clear H1
             obtain rfl := Option.some.inj H
             go_wp2
             repeat (go_quiet (fail); try go_wp2)
             go_ret
             exact ⟨Qe, Qv HB.out ap.out⟩
           ·replace c28 := Bool.eq_false_iff.mpr c28
            subst c28
            have H1 : (some false) = some r := by rw [if_neg (show ¬ (false = true) by decide)] at H; exact H
            clear H
            have H := H1
            clear H1
            obtain rfl := Option.some.inj H
            go_wp2
            repeat (go_quiet (fail); try go_wp2)
            go_ret
            exact ⟨Qe, Qv HB.out ap.out⟩
       ·rw [if_neg c17] at H
        exact absurd H (by simp)
      ·rw [if_neg c16] at H
       have b7 : decide (aa < (ab.length : Int)) = false := decide_eq_false c16
       clear c16
       replace H := Option.bind_eq_some_iff.mp H
       obtain ⟨bK, cl, H⟩ := H
       replace H : (some bK) = some r := H
       have d7 := Aside0.mk cl
       clear cl
       obtain rfl := Option.some.inj H
       obtain ⟨ds, dt, du, dv, dw, dx, dy, dz, dA, dB, dC, dD, dE, dF, dG, dH⟩ := c8_15 ag.out
       go_wp2_with (first | (go_at_call 44; (with_reducible refine (r6_subs.calls k2 _ _ ao 1 bK _ ?side1 ?side2 d7.out).mono ?_); (case side1 => exact Qc (cB_ cc.out HB.out)); (case side2 => exact cd.out); rintro e w' ⟨rfl, ⟨nd, rfl⟩⟩; (try exact Qd)))
       go_ret
       exact ⟨Qe, Qv HB.out ap.out⟩
def r6_Extlang.f (k : Nat) (a0 : ByteArray) : Option (Bool) := (r6_letters.f k a0 3 3).bind fun bD => (some bD)
set_option maxHeartbeats 8000000 in
set_option maxRecDepth 100000 in
theorem r6_Extlang.calls (k : Nat) (a0 : ByteArray) (r : Bool) (w : World) (h : r6_Extlang.f k a0 = some r) :
  Calls Try.prog 49 #[.string a0] w fun e w' => e = .returned (.bool r) ∧ Drawn0 w w' := by
 have H : ((r6_letters.f k a0 3 3).bind fun bD => (some bD)) = some r := h
 clear h
 replace H := Option.bind_eq_some_iff.mp H
 obtain ⟨bD, d6, H⟩ := H
 replace H : (some bD) = some r := H
 have A2 := Aside0.mk d6
 clear d6
 obtain rfl := Option.some.inj H
 go_enter Try.func49, Try.ntmps49
 go_wp2_with (first | ((with_reducible refine gate_callee (f := 71) rfl ?_); refine goesL_ (some 4) rfl rfl Try.func71 (by kernel_rfl) rfl #[.string a0, .int .i64 3, .int .i64 3] rfl Qm ?_; (with_reducible refine (r6_letters.calls k a0 3 3 bD _ A2.out).mono ?_); rintro e w' ⟨rfl, ⟨nd, rfl⟩⟩; refine ⟨_, rfl, ?_⟩))
 go_ret
 exact ⟨Qs, Q0⟩
end Go.Proofs.Ytojglflamecnkaa.P
