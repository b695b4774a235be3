-- Written for this claim by the session's own run of the print, functions proved by hand put in.
import Derived.Test.YtljadeeoaoiilaaGreatDoorSq
import Derived.Test.YtljadeeoaoiilaaGreatDoorPx0
import Derived.Test.YtljadeeoaoiilaaGreatDoorPx15
namespace Go.Proofs.YtljadeeoaoiilaaGreatDoor.P
open Go.RowKit Go.Proofs.YtljadeeoaoiilaaGreatDoorW.PrintWords Go.Proofs.YtljadeeoaoiilaaGreatDoorW.PrintLast Go.Proofs.YtljadeeoaoiilaaGreatDoorW.PrintMore
open Go.Proofs.YtljadeeoaoiilaaGreatDoorW.PrintWords renaming blk_alloc → bA_, blk_drewN → bN_, blk_drew → bD_, below_alloc → wA_, pw_below_drewN → wN_, below_drew1 → wD_, below_set → wS_, below_size → wZ_
open Go.Proofs.YtljadeeoaoiilaaGreatDoorW.PrintWords.Kd renaming C_alloc → cA_, C_drewN → cN_, C_drew → cD_, C_below → cB_
theorem c8_16 {w : World} {g : Nat} {t : TypeId} {x0 x1 x2 x3 x4 x5 x6 x7 : Value} (h : w.heap[g]? = some (.cells #[x0, x1, x2, x3, x4, x5, x6, x7] t (0, 0))) : w.cell? ⟨g, 0, none⟩ = some x0 ∧ w.cell? ⟨g, 1, none⟩ = some x1 ∧ w.cell? ⟨g, 2, none⟩ = some x2 ∧ w.cell? ⟨g, 3, none⟩ = some x3 ∧ w.cell? ⟨g, 4, none⟩ = some x4 ∧ w.cell? ⟨g, 5, none⟩ = some x5 ∧ w.cell? ⟨g, 6, none⟩ = some x6 ∧ w.cell? ⟨g, 7, none⟩ = some x7 ∧ w.frozen? ⟨g, 0, none⟩ = false ∧ w.frozen? ⟨g, 1, none⟩ = false ∧ w.frozen? ⟨g, 2, none⟩ = false ∧ w.frozen? ⟨g, 3, none⟩ = false ∧ w.frozen? ⟨g, 4, none⟩ = false ∧ w.frozen? ⟨g, 5, none⟩ = false ∧ w.frozen? ⟨g, 6, none⟩ = false ∧ w.frozen? ⟨g, 7, none⟩ = false :=
  ⟨(blk_cell h 0).trans rfl, (blk_cell h 1).trans rfl, (blk_cell h 2).trans rfl, (blk_cell h 3).trans rfl, (blk_cell h 4).trans rfl, (blk_cell h 5).trans rfl, (blk_cell h 6).trans rfl, (blk_cell h 7).trans rfl, blk_frozen h 0, blk_frozen h 1, blk_frozen h 2, blk_frozen h 3, blk_frozen h 4, blk_frozen h 5, blk_frozen h 6, blk_frozen h 7⟩
attribute [local go_sem] max2_int min2_int max_two min_two max_three min_three max_four min_four   -- for this text's walks alone
set_option linter.unusedVariables false
set_option linter.unusedSimpArgs false
mutual
def r6_rows.l0 : Nat → Int → ByteArray → List ByteArray → ByteArray → ByteArray → List ByteArray → List (S40) → List ByteArray → ByteArray → Option (Bool)
 | 0, _, _, _, _, _, _, _, _, _ => none
 | k + 1, x3, ah, ai, aj, ak, ac, aa, af, al => if x3 < (ac.length : Int) then (if 0 ≤ x3 then ((r6_Variant.f k (rdOf ByteArray.empty ac x3)).bind fun aT => (r6_rows.l1 k x3 aT 0 ah ai aj ak ac aa af al)) else (none)) else (r6_rows.l2 k 0 ah ai aj ak ac aa af al)
def r6_rows.l1 : Nat → Int → Bool → Int → ByteArray → List ByteArray → ByteArray → ByteArray → List ByteArray → List (S40) → List ByteArray → ByteArray → Option (Bool)
 | 0, _, _, _, _, _, _, _, _, _, _, _ => none
 | k + 1, x3, x4, x5, ah, ai, aj, ak, ac, aa, af, al => if x5 < x3 then (if x4 = true then (if 0 ≤ x5 then (if x5 < (ac.length : Int) then (if 0 ≤ x3 then (if x3 < (ac.length : Int) then (r6_rows.l1 k x3 ((rdOf ByteArray.empty ac x5).toList != (rdOf ByteArray.empty ac x3).toList) (wrap64 (x5 + 1)) ah ai aj ak ac aa af al) else (none)) else (none)) else (none)) else (none)) else (r6_rows.l1 k x3 false (wrap64 (x5 + 1)) ah ai aj ak ac aa af al)) else (if x4 = true then (r6_rows.l0 k (wrap64 (x3 + 1)) ah ai aj ak ac aa af al) else (some false))
def r6_rows.l2 : Nat → Int → ByteArray → List ByteArray → ByteArray → ByteArray → List ByteArray → List (S40) → List ByteArray → ByteArray → Option (Bool)
 | 0, _, _, _, _, _, _, _, _, _ => none
 | k + 1, x6, ah, ai, aj, ak, ac, aa, af, al => if x6 < (aa.length : Int) then (if 0 ≤ x6 then ((r6_Singleton.f k ((rd_T40 aa x6).f0)).bind fun aO => ((r6_subs.f k ((rd_T40 aa x6).f1) 2).bind fun aK => (r6_rows.l3 k x6 aO aK 0 ah ai aj ak ac aa af al))) else (none)) else ((r6_subs.f k af 1).bind fun aU => (some aU))
def r6_rows.l3 : Nat → Int → Bool → Bool → Int → ByteArray → List ByteArray → ByteArray → ByteArray → List ByteArray → List (S40) → List ByteArray → ByteArray → Option (Bool)
 | 0, _, _, _, _, _, _, _, _, _, _, _, _ => none
 | k + 1, x6, x7, x8, x9, ah, ai, aj, ak, ac, aa, af, al => if x9 < x6 then (if x7 = true then (if 0 ≤ x9 then (if x9 < (aa.length : Int) then (if 0 ≤ x6 then (if x6 < (aa.length : Int) then (r6_rows.l3 k x6 (((rd_T40 aa x9).f0).toList != ((rd_T40 aa x6).f0).toList) x8 (wrap64 (x9 + 1)) ah ai aj ak ac aa af al) else (none)) else (none)) else (none)) else (none)) else (r6_rows.l3 k x6 false x8 (wrap64 (x9 + 1)) ah ai aj ak ac aa af al)) else (if x7 = true then (if x8 = true then (if 0 ≤ x6 then (if x6 < (aa.length : Int) then (if (((rd_T40 aa x6).f1).length : Int) = 0 then (some false) else (r6_rows.l2 k (wrap64 (x6 + 1)) ah ai aj ak ac aa af al)) else (none)) else (none)) else (some false)) else (some false))
end
def r6_rows.f (k : Nat) (aw : ByteArray) (ar : List ByteArray) (ax : ByteArray) (ay : ByteArray) (am : List ByteArray) (ad : List (S40)) (aq : List ByteArray) (az : ByteArray) : Option (Bool) := r6_rows.l0 k 0 aw ar ax ay am ad aq az
set_option maxHeartbeats 8000000 in
set_option maxRecDepth 100000 in
theorem r6_rows.calls (k : Nat) (aw : ByteArray) (aE : Option Addr) (aF : Nat) (ar : List ByteArray) (ax : ByteArray) (ay : ByteArray) (aL : Option Addr) (aG : Nat) (am : List ByteArray) (aM : Option Addr) (aH : Nat) (ad : List (S40)) (aI : Option Addr) (aJ : Nat) (aq : List ByteArray) (az : ByteArray) (r : Bool) (w : World) (hr0_1 : Kd.C Kd.string w aE ar.length ar) (hc0_1 : ar.length ≤ aF) (hr0_4 : Kd.C Kd.string w aL am.length am) (hc0_4 : am.length ≤ aG) (hr0_5 : Kd.C k40 w aM ad.length ad) (hc0_5 : ad.length ≤ aH) (hr0_6 : Kd.C Kd.string w aI aq.length aq) (hc0_6 : aq.length ≤ aJ) (h : r6_rows.f k aw ar ax ay am ad aq az = some r) :
  Calls Tryz.prog 40 #[.agg #[.string aw, .slice aE ar.length aF, .string ax, .string ay, .slice aL am.length aG, .slice aM ad.length aH, .slice aI aq.length aJ, .string az]] w fun e w' => e = .returned (.bool r) ∧ Below w.heap.size w w' := by
 have hu25 := Tryz.underlying25
 have dL := Aside0.mk hr0_1
 have dM := Aside0.mk hc0_1
 clear hr0_1 hc0_1
 have aP := Aside0.mk hr0_4
 have dN := Aside0.mk hc0_4
 clear hr0_4 hc0_4
 have aA := Aside0.mk hr0_5
 have dO := Aside0.mk hc0_5
 clear hr0_5 hc0_5
 have bS := Aside0.mk hr0_6
 have bT := Aside0.mk hc0_6
 clear hr0_6 hc0_6
 have HB := Aside0.mk (Below.refl w.heap.size w)
 have H := h; unfold r6_rows.f at H
 clear h
 have H' := Aside0.mk H
 clear H
 go_enter Tryz.func40, Tryz.ntmps40
 go_wp2_with (first | ((with_reducible refine gate_dst (N := 1) rfl ?_); (try (refine gate_guard (by rfl) ?_; dsimp only)); refine box_event ?hg (N := 1) ?hd (cs := #[.string aw, .slice aE ar.length aF, .string ax, .string ay, .slice aL am.length aG, .slice aM ad.length aH, .slice aI aq.length aJ, .string az]) (t := 25) ?hr ?_; (case hd => rfl); (case hg => rfl); (case hr => first | (go_simp; done) | (go_simp; rfl)); intro aB hg w2 hbox hb; have dP := Aside0.mk (below_step (Qw HB.out) hb); have dQ := Aside0.mk (hbox); have dR := Aside0.mk ((by rw [hg]; exact (wZ_ (Qw HB.out)) : w.heap.size ≤ aB)); have dS := Aside0.mk ((by rw [hg]; exact (wZ_ (Qw HB.out)) : w.heap.size ≤ aB)); clear HB; have HB := dP; have ag := dQ; have GW359 := dR; have ap := dS; clear dP dQ dR dS; clear hb hbox hg))
 go_loopg [3] k (fun kq v3 w' => ∃ (ae : Int), v3 = .int .i64 ae ∧ Aside0 (r6_rows.l0 kq ae aw ar ax ay am ad aq az = some r) ∧ Aside0 (kq ≤ k) ∧ Aside0 (w'.heap[aB]? = some (.cells #[.string aw, (.slice aE ar.length aF), .string ax, .string ay, (.slice aL am.length aG), (.slice aM ad.length aH), (.slice aI aq.length aJ), .string az] 25 (0, 0))) ∧ Aside0 (Below w.heap.size w w'))
 case atStart => exact ⟨(0), Qs, H', ⟨Nat.le_refl _⟩, ⟨Qb ag.out⟩, ⟨Qv HB.out ap.out⟩⟩
 case round =>
  clear H'
  obtain ⟨ae, rfl, HA, HK1, ag, HB⟩ := hrel
  cases gk with
  | zero => exact absurd HA.out (by simp [r6_rows.l0])
  | succ k1 =>
   have H := HA.out
   clear HA
   simp only [r6_rows.l0] at H
   by_cases c3 : ae < (am.length : Int)
   ·rw [if_pos c3] at H
    have aQ : decide (ae < (am.length : Int)) = true := decide_eq_true c3
    clear c3
    by_cases c4 : 0 ≤ ae
    ·rw [if_pos c4] at H
     have bU : decide (0 ≤ ae) = true := decide_eq_true c4
     clear c4
     replace H := Option.bind_eq_some_iff.mp H
     obtain ⟨aT, dT, H⟩ := H
     try dsimp only at H
     have A5 := Aside0.mk dT
     clear dT
     have H' := Aside0.mk H
     clear H
     obtain ⟨bx, bz, bA, bB, bC, bD, bE, bF, bG, bH, bI, bJ, bK, bL, bM, bN⟩ := c8_16 ag.out
     have p360 : 0 ≤ (ae : Int) := of_decide_eq_true Qa
     have q360 : ae < (am.length : Int) := of_decide_eq_true Qa
     obtain ⟨ad360, e360, hx360_0⟩ := Kd.at_string aP.out ae p360 q360
     cases e360
     replace hx360_0 := (HB.out.cell (World.block_lt_of_cell? w _ hx360_0)).trans hx360_0
     replace p360 := eq_true p360
     replace q360 := eq_true q360
     go_wp2_with (first | (go_at_call 78; (with_reducible refine (r6_Variant.calls k1 (rdOf ByteArray.empty am ae) aT _ A5.out).mono ?_); rintro e w' ⟨rfl, ⟨nd, rfl⟩⟩; (try exact Qd)))
     go_loopg [4, 5] k1 (fun kq v4 v5 w' => ∃ (aR : Bool) (au : Int), v4 = .bool aR ∧ v5 = .int .i64 au ∧ Aside0 (r6_rows.l1 kq ae aR au aw ar ax ay am ad aq az = some r) ∧ Aside0 (kq ≤ k1) ∧ Aside0 (w'.heap[aB]? = some (.cells #[.string aw, (.slice aE ar.length aF), .string ax, .string ay, (.slice (some ad360) am.length aG), (.slice aM ad.length aH), (.slice aI aq.length aJ), .string az] 25 (0, 0))) ∧ Aside0 (Below w.heap.size w w'))
     case atStart => exact ⟨(aT), (0), Qs, Qs, H', ⟨Nat.le_refl _⟩, ⟨Qb ag.out⟩, ⟨Qv HB.out ap.out⟩⟩
     case round =>
      clear H'
      try clear aQ; try clear bU
      try clear bx bz bA bB bC bD bE bF; try clear bG bH bI bJ bK bL bM bN
      try clear hx360_0; try clear p360; try clear q360
      obtain ⟨aR, au, rfl, rfl, HA, HK2, ag, HB⟩ := hrel
      cases gk with
      | zero => exact absurd HA.out (by simp [r6_rows.l1])
      | succ k2 =>
       have H := HA.out
       clear HA
       simp only [r6_rows.l1] at H
       by_cases c7 : au < ae
       ·rw [if_pos c7] at H
        have bV : decide (au < ae) = true := decide_eq_true c7
        clear c7
        by_cases c8 : aR = true
        ·subst c8
         rw [if_pos rfl] at H
         by_cases c9 : 0 ≤ au
         ·rw [if_pos c9] at H
          have d8 : decide (0 ≤ au) = true := decide_eq_true c9
          clear c9
          by_cases c10 : au < (am.length : Int)
          ·rw [if_pos c10] at H
           have dU : decide (au < (am.length : Int)) = true := decide_eq_true c10
           clear c10
           by_cases c11 : 0 ≤ ae
           ·rw [if_pos c11] at H
            have dV : decide (0 ≤ ae) = true := decide_eq_true c11
            clear c11
            by_cases c12 : ae < (am.length : Int)
            ·rw [if_pos c12] at H
             have dW : decide (ae < (am.length : Int)) = true := decide_eq_true c12
             clear c12
             have H' := Aside0.mk H
             clear H
             obtain ⟨b3, b4, b5, b6, b7, b8, b9, ca, cb, cc, cd, ce, cf, cg, ch, ci⟩ := c8_16 ag.out
             have p362 : 0 ≤ (au : Int) := of_decide_eq_true Qa
             have q362 : au < (am.length : Int) := of_decide_eq_true Qa
             obtain ⟨ad362, e362, hx362_0⟩ := Kd.at_string aP.out au p362 q362
             obtain rfl : ad360 = ad362 := (by injection e362)
             replace hx362_0 := (HB.out.cell (World.block_lt_of_cell? w _ hx362_0)).trans hx362_0
             replace p362 := eq_true p362
             replace q362 := eq_true q362
             have p363 : 0 ≤ (ae : Int) := of_decide_eq_true Qa
             have q363 : ae < (am.length : Int) := of_decide_eq_true Qa
             obtain ⟨ad363, e363, hx363_0⟩ := Kd.at_string aP.out ae p363 q363
             obtain rfl : ad360 = ad363 := (by injection e363)
             replace hx363_0 := (HB.out.cell (World.block_lt_of_cell? w _ hx363_0)).trans hx363_0
             replace p363 := eq_true p363
             replace q363 := eq_true q363
             go_wp2
             repeat (go_quiet (fail); try go_wp2)
             go_roundg k2
             case measure => have := HK1.out; have := HK2.out; omega
             case rel => exact ⟨(((rdOf ByteArray.empty am au).toList != (rdOf ByteArray.empty am ae).toList)), (wrap64 (au + 1)), Qs, Qs, H', ⟨by have := HK1.out; have := HK2.out; omega⟩, ⟨Qb ag.out⟩, ⟨Qv HB.out ap.out⟩⟩
            ·rw [if_neg c12] at H
             exact absurd H (by simp)
           ·rw [if_neg c11] at H
            exact absurd H (by simp)
          ·rw [if_neg c10] at H
           exact absurd H (by simp)
         ·rw [if_neg c9] at H
          exact absurd H (by simp)
        ·replace c8 := Bool.eq_false_iff.mpr c8
         subst c8
         rw [if_neg (show ¬ (false = true) by decide)] at H
         have H' := Aside0.mk H
         clear H
         go_wp2
         repeat (go_quiet (fail); try go_wp2)
         go_roundg k2
         case measure => have := HK1.out; have := HK2.out; omega
         case rel => exact ⟨(false), (wrap64 (au + 1)), Qs, Qs, H', ⟨by have := HK1.out; have := HK2.out; omega⟩, ⟨Qb ag.out⟩, ⟨Qv HB.out ap.out⟩⟩
       ·rw [if_neg c7] at H
        have bV : decide (au < ae) = false := decide_eq_false c7
        clear c7
        by_cases c14 : aR = true
        ·subst c14
         rw [if_pos rfl] at H
         have H' := Aside0.mk H
         clear H
         go_wp2
         go_roundg k2
         case measure => have := HK1.out; have := HK2.out; omega
         case rel => exact ⟨(wrap64 (ae + 1)), Qs, H', ⟨by have := HK1.out; have := HK2.out; omega⟩, ⟨Qb ag.out⟩, ⟨Qv HB.out ap.out⟩⟩
        ·replace c14 := Bool.eq_false_iff.mpr c14
         subst c14
         rw [if_neg (show ¬ (false = true) by decide)] at H
         obtain rfl := Option.some.inj H
         go_wp2
         go_ret
         exact ⟨Qe, Qv HB.out ap.out⟩
    ·rw [if_neg c4] at H
     exact absurd H (by simp)
   ·rw [if_neg c3] at H
    have aQ : decide (ae < (am.length : Int)) = false := decide_eq_false c3
    clear c3
    have H' := Aside0.mk H
    clear H
    obtain ⟨aV, aW, aX, aY, aZ, a1, a2, a3, a4, a5, a6, a7, a8, a9, ba, bb⟩ := c8_16 ag.out
    go_wp2
    go_loopg [6] k1 (fun kq v6 w' => ∃ (ab : Int), v6 = .int .i64 ab ∧ Aside0 (r6_rows.l2 kq ab aw ar ax ay am ad aq az = some r) ∧ Aside0 (kq ≤ k1) ∧ Aside0 (w'.heap[aB]? = some (.cells #[.string aw, (.slice aE ar.length aF), .string ax, .string ay, (.slice aL am.length aG), (.slice aM ad.length aH), (.slice aI aq.length aJ), .string az] 25 (0, 0))) ∧ Aside0 (Below w.heap.size w w'))
    case atStart => exact ⟨(0), Qs, H', ⟨Nat.le_refl _⟩, ⟨Qb ag.out⟩, ⟨Qv HB.out ap.out⟩⟩
    case round =>
     clear H'
     try clear aQ
     try clear aV aW aX aY aZ a1 a2 a3; try clear a4 a5 a6 a7 a8 a9 ba bb
     obtain ⟨ab, rfl, HA, HK2, ag, HB⟩ := hrel
     cases gk with
     | zero => exact absurd HA.out (by simp [r6_rows.l2])
     | succ k2 =>
      have H := HA.out
      clear HA
      simp only [r6_rows.l2] at H
      by_cases c16 : ab < (ad.length : Int)
      ·rw [if_pos c16] at H
       have bw : decide (ab < (ad.length : Int)) = true := decide_eq_true c16
       clear c16
       by_cases c17 : 0 ≤ ab
       ·rw [if_pos c17] at H
        have bW : decide (0 ≤ ab) = true := decide_eq_true c17
        clear c17
        replace H := Option.bind_eq_some_iff.mp H
        obtain ⟨aO, bX, H⟩ := H
        try dsimp only at H
        have dX := Aside0.mk bX
        clear bX
        replace H := Option.bind_eq_some_iff.mp H
        obtain ⟨aK, bY, H⟩ := H
        try dsimp only at H
        have dY := Aside0.mk bY
        clear bY
        have H' := Aside0.mk H
        clear H
        obtain ⟨bc, bd, be, bf, bg, bh, bi, bj, bk, bm, bn, bo, bp, bq, br, bs⟩ := c8_16 ag.out
        have p365 : 0 ≤ (ab : Int) := of_decide_eq_true Qa
        have q365 : ab < (ad.length : Int) := of_decide_eq_true Qa
        obtain ⟨ad365, dC, dD, e365, hx365_0, hx365_1, hl365_1, hi365_1⟩ := at_T40 aA.out ab p365 q365
        cases e365
        replace hx365_0 := (HB.out.cell (World.block_lt_of_cell? w _ hx365_0)).trans hx365_0
        replace hx365_1 := (HB.out.cell (World.block_lt_of_cell? w _ hx365_1)).trans hx365_1
        have cj := Aside0.mk hi365_1
        have ck := Aside0.mk hl365_1
        clear hi365_1 hl365_1
        replace p365 := eq_true p365
        replace q365 := eq_true q365
        go_wp2_with (first | (go_at_call 79; (with_reducible refine (r6_Singleton.calls k2 ((rd_T40 ad ab).f0) aO _ dX.out).mono ?_); rintro e w' ⟨rfl, ⟨nd, rfl⟩⟩; (try exact Qd); have p367 : 0 ≤ (ab : Int) := of_decide_eq_true Qa; have q367 : ab < (ad.length : Int) := of_decide_eq_true Qa; obtain ⟨ad367, bO, bP, e367, hx367_0, hx367_1, hl367_1, hi367_1⟩ := at_T40 aA.out ab p367 q367; obtain rfl : ad365 = ad367 := (by injection e367); replace hx367_0 := (HB.out.cell (World.block_lt_of_cell? w _ hx367_0)).trans hx367_0; replace hx367_1 := (HB.out.cell (World.block_lt_of_cell? w _ hx367_1)).trans hx367_1; have aC := Aside0.mk hi367_1; have aD := Aside0.mk hl367_1; clear hi367_1 hl367_1; replace p367 := eq_true p367; replace q367 := eq_true q367; have ea_ := Option.some.inj (hx365_1.symm.trans hx367_1); injection ea_ with ea_ en_ ec_; subst ea_; subst ec_; clear en_) | (go_at_call 36; (with_reducible refine (r6_subs.calls k2 _ _ ((rd_T40 ad ab).f1) 2 aK _ ?side1 ?side2 dY.out).mono ?_); (case side1 => repeat (first | exact (cB_ aC.out (Qv HB.out ap.out)) | (with_reducible refine cA_ ?_ _) | (with_reducible refine cN_ ?_ _) | (with_reducible refine cD_ ?_))); (case side2 => exact aD.out); rintro e w' ⟨rfl, ⟨nd, rfl⟩⟩; (try exact Qd)))
        repeat (go_quiet (first | (go_at_call 79; (with_reducible refine (r6_Singleton.calls k2 ((rd_T40 ad ab).f0) aO _ dX.out).mono ?_); rintro e w' ⟨rfl, ⟨nd, rfl⟩⟩; (try exact Qd); have p367 : 0 ≤ (ab : Int) := of_decide_eq_true Qa; have q367 : ab < (ad.length : Int) := of_decide_eq_true Qa; obtain ⟨ad367, bO, bP, e367, hx367_0, hx367_1, hl367_1, hi367_1⟩ := at_T40 aA.out ab p367 q367; obtain rfl : ad365 = ad367 := (by injection e367); replace hx367_0 := (HB.out.cell (World.block_lt_of_cell? w _ hx367_0)).trans hx367_0; replace hx367_1 := (HB.out.cell (World.block_lt_of_cell? w _ hx367_1)).trans hx367_1; have aC := Aside0.mk hi367_1; have aD := Aside0.mk hl367_1; clear hi367_1 hl367_1; replace p367 := eq_true p367; replace q367 := eq_true q367; have ea_ := Option.some.inj (hx365_1.symm.trans hx367_1); injection ea_ with ea_ en_ ec_; subst ea_; subst ec_; clear en_) | (go_at_call 36; (with_reducible refine (r6_subs.calls k2 _ _ ((rd_T40 ad ab).f1) 2 aK _ ?side1 ?side2 dY.out).mono ?_); (case side1 => repeat (first | exact (cB_ aC.out (Qv HB.out ap.out)) | (with_reducible refine cA_ ?_ _) | (with_reducible refine cN_ ?_ _) | (with_reducible refine cD_ ?_))); (case side2 => exact aD.out); rintro e w' ⟨rfl, ⟨nd, rfl⟩⟩; (try exact Qd))); try go_wp2_with (fail))
        go_loopg [7, 9] k2 (fun kq v7 v9 w' => ∃ (aS : Bool) (av : Int), v7 = .bool aS ∧ v9 = .int .i64 av ∧ Aside0 (r6_rows.l3 kq ab aS aK av aw ar ax ay am ad aq az = some r) ∧ Aside0 (kq ≤ k2) ∧ Aside0 (w'.heap[aB]? = some (.cells #[.string aw, (.slice aE ar.length aF), .string ax, .string ay, (.slice aL am.length aG), (.slice (some ad365) ad.length aH), (.slice aI aq.length aJ), .string az] 25 (0, 0))) ∧ Aside0 (Below w.heap.size w w'))
        case atStart => exact ⟨(aO), (0), Qs, Qs, H', ⟨Nat.le_refl _⟩, ⟨Qb ag.out⟩, ⟨Qv HB.out ap.out⟩⟩
        case round =>
         clear H'
         try clear bw; try clear bW
         try clear bc bd be bf bg bh bi bj; try clear bk bm bn bo bp bq br bs
         try clear hx365_0; try clear hx365_1; try clear hx367_0; try clear hx367_1; try clear p365; try clear p367; try clear q365; try clear q367
         obtain ⟨aS, av, rfl, rfl, HA, HK3, ag, HB⟩ := hrel
         cases gk with
         | zero => exact absurd HA.out (by simp [r6_rows.l3])
         | succ k3 =>
          have H := HA.out
          clear HA
          simp only [r6_rows.l3] at H
          by_cases c21 : av < ab
          ·rw [if_pos c21] at H
           have bZ : decide (av < ab) = true := decide_eq_true c21
           clear c21
           by_cases c22 : aS = true
           ·subst c22
            rw [if_pos rfl] at H
            by_cases c23 : 0 ≤ av
            ·rw [if_pos c23] at H
             have dZ : decide (0 ≤ av) = true := decide_eq_true c23
             clear c23
             by_cases c24 : av < (ad.length : Int)
             ·rw [if_pos c24] at H
              have d0 : decide (av < (ad.length : Int)) = true := decide_eq_true c24
              clear c24
              by_cases c25 : 0 ≤ ab
              ·rw [if_pos c25] at H
               have d1 : decide (0 ≤ ab) = true := decide_eq_true c25
               clear c25
               by_cases c26 : ab < (ad.length : Int)
               ·rw [if_pos c26] at H
                have d2 : decide (ab < (ad.length : Int)) = true := decide_eq_true c26
                clear c26
                have H' := Aside0.mk H
                clear H
                obtain ⟨cl, cm, cn, co, cp, cq, cr, ct, cu, cv, cw, cx, cy, cz, cA, cB⟩ := c8_16 ag.out
                have p369 : 0 ≤ (av : Int) := of_decide_eq_true Qa
                have q369 : av < (ad.length : Int) := of_decide_eq_true Qa
                obtain ⟨ad369, dE, dF, e369, hx369_0, hx369_1, hl369_1, hi369_1⟩ := at_T40 aA.out av p369 q369
                obtain rfl : ad365 = ad369 := (by injection e369)
                replace hx369_0 := (HB.out.cell (World.block_lt_of_cell? w _ hx369_0)).trans hx369_0
                replace hx369_1 := (HB.out.cell (World.block_lt_of_cell? w _ hx369_1)).trans hx369_1
                have cC := Aside0.mk hi369_1
                have cD := Aside0.mk hl369_1
                clear hi369_1 hl369_1
                replace p369 := eq_true p369
                replace q369 := eq_true q369
                have p370 : 0 ≤ (ab : Int) := of_decide_eq_true Qa
                have q370 : ab < (ad.length : Int) := of_decide_eq_true Qa
                obtain ⟨ad370, dG, dH, e370, hx370_0, hx370_1, hl370_1, hi370_1⟩ := at_T40 aA.out ab p370 q370
                obtain rfl : ad365 = ad370 := (by injection e370)
                replace hx370_0 := (HB.out.cell (World.block_lt_of_cell? w _ hx370_0)).trans hx370_0
                replace hx370_1 := (HB.out.cell (World.block_lt_of_cell? w _ hx370_1)).trans hx370_1
                have cE := Aside0.mk hi370_1
                have cF := Aside0.mk hl370_1
                clear hi370_1 hl370_1
                replace p370 := eq_true p370
                replace q370 := eq_true q370
                go_wp2
                repeat (go_quiet (fail); try go_wp2)
                go_roundg k3
                case measure => have := HK1.out; have := HK2.out; have := HK3.out; omega
                case rel => exact ⟨((((rd_T40 ad av).f0).toList != ((rd_T40 ad ab).f0).toList)), (wrap64 (av + 1)), Qs, Qs, H', ⟨by have := HK1.out; have := HK2.out; have := HK3.out; omega⟩, ⟨Qb ag.out⟩, ⟨Qv HB.out ap.out⟩⟩
               ·rw [if_neg c26] at H
                exact absurd H (by simp)
              ·rw [if_neg c25] at H
               exact absurd H (by simp)
             ·rw [if_neg c24] at H
              exact absurd H (by simp)
            ·rw [if_neg c23] at H
             exact absurd H (by simp)
           ·replace c22 := Bool.eq_false_iff.mpr c22
            subst c22
            rw [if_neg (show ¬ (false = true) by decide)] at H
            have H' := Aside0.mk H
            clear H
            go_wp2
            repeat (go_quiet (fail); try go_wp2)
            go_roundg k3
            case measure => have := HK1.out; have := HK2.out; have := HK3.out; omega
            case rel => exact ⟨(false), (wrap64 (av + 1)), Qs, Qs, H', ⟨by have := HK1.out; have := HK2.out; have := HK3.out; omega⟩, ⟨Qb ag.out⟩, ⟨Qv HB.out ap.out⟩⟩
          ·rw [if_neg c21] at H
           have bZ : decide (av < ab) = false := decide_eq_false c21
           clear c21
           by_cases c28 : aS = true
           ·subst c28
            rw [if_pos rfl] at H
            by_cases c29 : aK = true
            ·subst c29
             rw [if_pos rfl] at H
             by_cases c30 : 0 ≤ ab
             ·rw [if_pos c30] at H
              have d3 : decide (0 ≤ ab) = true := decide_eq_true c30
              clear c30
              by_cases c31 : ab < (ad.length : Int)
              ·rw [if_pos c31] at H
               have d4 : decide (ab < (ad.length : Int)) = true := decide_eq_true c31
               clear c31
               by_cases c32 : (((rd_T40 ad ab).f1).length : Int) = 0
               ·rw [if_pos c32] at H
                have b0 : ((((rd_T40 ad ab).f1).length : Int) == 0) = true := beq_iff_eq.mpr c32
                have b1 : ((((rd_T40 ad ab).f1).length : Int) != 0) = false := bne_eq_false_iff_eq.mpr c32
                clear c32
                obtain rfl := Option.some.inj H
                obtain ⟨cG, cH, cI, cJ, cK, cL, cM, cN, cO, cP, cQ, cR, cS, cT, cU, cV⟩ := c8_16 ag.out
                have p371 : 0 ≤ (ab : Int) := of_decide_eq_true Qa
                have q371 : ab < (ad.length : Int) := of_decide_eq_true Qa
                obtain ⟨ad371, bQ, bR, e371, hx371_0, hx371_1, hl371_1, hi371_1⟩ := at_T40 aA.out ab p371 q371
                obtain rfl : ad365 = ad371 := (by injection e371)
                replace hx371_0 := (HB.out.cell (World.block_lt_of_cell? w _ hx371_0)).trans hx371_0
                replace hx371_1 := (HB.out.cell (World.block_lt_of_cell? w _ hx371_1)).trans hx371_1
                have bu := Aside0.mk hi371_1
                have bv := Aside0.mk hl371_1
                clear hi371_1 hl371_1
                replace p371 := eq_true p371
                replace q371 := eq_true q371
                go_wp2
                go_ret
                exact ⟨Qe, Qv HB.out ap.out⟩
               ·rw [if_neg c32] at H
                have b0 : ((((rd_T40 ad ab).f1).length : Int) == 0) = false := beq_eq_false_iff_ne.mpr c32
                have b1 : ((((rd_T40 ad ab).f1).length : Int) != 0) = true := bne_iff_ne.mpr c32
                have d5 : ¬ (((rd_T40 ad ab).f1) = []) := fun h_ => c32 (by rw [h_]; rfl)
                have H' := Aside0.mk H
                clear H
                obtain ⟨cW, cX, cY, cZ, c1, da, db, dc, dd, de, df, dg, dh, di, dj, dk⟩ := c8_16 ag.out
                have p371 : 0 ≤ (ab : Int) := of_decide_eq_true Qa
                have q371 : ab < (ad.length : Int) := of_decide_eq_true Qa
                obtain ⟨ad371, bQ, bR, e371, hx371_0, hx371_1, hl371_1, hi371_1⟩ := at_T40 aA.out ab p371 q371
                obtain rfl : ad365 = ad371 := (by injection e371)
                replace hx371_0 := (HB.out.cell (World.block_lt_of_cell? w _ hx371_0)).trans hx371_0
                replace hx371_1 := (HB.out.cell (World.block_lt_of_cell? w _ hx371_1)).trans hx371_1
                have bu := Aside0.mk hi371_1
                have bv := Aside0.mk hl371_1
                clear hi371_1 hl371_1
                replace p371 := eq_true p371
                replace q371 := eq_true q371
                go_wp2
                go_roundg k3
                case measure => have := HK1.out; have := HK2.out; have := HK3.out; omega
                case rel => exact ⟨(wrap64 (ab + 1)), Qs, H', ⟨by have := HK1.out; have := HK2.out; have := HK3.out; omega⟩, ⟨Qb ag.out⟩, ⟨Qv HB.out ap.out⟩⟩
              ·rw [if_neg c31] at H
               exact absurd H (by simp)
             ·rw [if_neg c30] at H
              exact absurd H (by simp)
            ·replace c29 := Bool.eq_false_iff.mpr c29
             subst c29
             rw [if_neg (show ¬ (false = true) by decide)] at H
             obtain rfl := Option.some.inj H
             go_wp2
             go_ret
             exact ⟨Qe, Qv HB.out ap.out⟩
           ·replace c28 := Bool.eq_false_iff.mpr c28
            subst c28
            rw [if_neg (show ¬ (false = true) by decide)] at H
            obtain rfl := Option.some.inj H
            go_wp2
            go_ret
            exact ⟨Qe, Qv HB.out ap.out⟩
       ·rw [if_neg c17] at H
        exact absurd H (by simp)
      ·rw [if_neg c16] at H
       have bw : decide (ab < (ad.length : Int)) = false := decide_eq_false c16
       clear c16
       replace H := Option.bind_eq_some_iff.mp H
       obtain ⟨aU, b2, H⟩ := H
       replace H : (some aU) = some r := H
       have d9 := Aside0.mk b2
       clear b2
       obtain rfl := Option.some.inj H
       obtain ⟨dl, dm, dn, dp, dq, dr, ds, dt, du, dv, dw, dx, dy, dz, dA, dB⟩ := c8_16 ag.out
       go_wp2_with (first | (go_at_call 36; (with_reducible refine (r6_subs.calls k2 _ _ aq 1 aU _ ?side1 ?side2 d9.out).mono ?_); (case side1 => exact Qc (cB_ bS.out HB.out)); (case side2 => exact bT.out); rintro e w' ⟨rfl, ⟨nd, rfl⟩⟩; (try exact Qd)))
       go_ret
       exact ⟨Qe, Qv HB.out ap.out⟩
def r6_Extlang.f (k : Nat) (a0 : ByteArray) : Option (Bool) := (r6_letters.f k a0 3 3).bind fun aN => (some aN)
set_option maxHeartbeats 8000000 in
set_option maxRecDepth 100000 in
theorem r6_Extlang.calls (k : Nat) (a0 : ByteArray) (r : Bool) (w : World) (h : r6_Extlang.f k a0 = some r) :
  Calls Tryz.prog 41 #[.string a0] w fun e w' => e = .returned (.bool r) ∧ Drawn0 w w' := by
 have H : ((r6_letters.f k a0 3 3).bind fun aN => (some aN)) = some r := h
 clear h
 replace H := Option.bind_eq_some_iff.mp H
 obtain ⟨aN, d6, H⟩ := H
 replace H : (some aN) = some r := H
 have A2 := Aside0.mk d6
 clear d6
 obtain rfl := Option.some.inj H
 go_enter Tryz.func41, Tryz.ntmps41
 go_wp2_with (first | ((with_reducible refine gate_callee (f := 77) rfl ?_); refine goesL_ (some 4) rfl rfl Tryz.func77 (by kernel_rfl) rfl #[.string a0, .int .i64 3, .int .i64 3] rfl Qm ?_; (with_reducible refine (r6_letters.calls k a0 3 3 aN _ A2.out).mono ?_); rintro e w' ⟨rfl, ⟨nd, rfl⟩⟩; refine ⟨_, rfl, ?_⟩))
 go_ret
 exact ⟨Qs, Q0⟩
def r4_Join.l0 : Nat → List ByteArray → ByteArray → Int → Option (ByteArray)
 | 0, _, _, _ => none
 | k + 1, x0, x3, x4 => if x4 < (x0.length : Int) then (if x4 > 0 then (if x3.size + 1 ≤ 9223372036854775807 then (if 0 ≤ x4 then (if (x3 ++ (⟨#[45]⟩ : ByteArray)).size + (rdOf ByteArray.empty x0 x4).size ≤ 9223372036854775807 then (r4_Join.l0 k x0 ((x3 ++ (⟨#[45]⟩ : ByteArray)) ++ (rdOf ByteArray.empty x0 x4)) (wrap64 (x4 + 1))) else (none)) else (none)) else (none)) else (if 0 ≤ x4 then (if x3.size + (rdOf ByteArray.empty x0 x4).size ≤ 9223372036854775807 then (r4_Join.l0 k x0 (x3 ++ (rdOf ByteArray.empty x0 x4)) (wrap64 (x4 + 1))) else (none)) else (none))) else (some x3)
def r4_Join.f (k : Nat) (l0 : List ByteArray) : Option (ByteArray) := r4_Join.l0 k l0 (⟨#[]⟩ : ByteArray) 0
set_option maxHeartbeats 8000000 in
set_option maxRecDepth 100000 in
theorem r4_Join.calls (k : Nat) (A0 : Option Addr) (c0 : Nat) (l0 : List ByteArray) (r : ByteArray) (w : World) (hr0 : Kd.C Kd.string w A0 l0.length l0) (hc0 : l0.length ≤ c0) (h : r4_Join.f k l0 = some r) :
  Calls Tryz.prog 42 #[.slice A0 l0.length c0] w fun e w' => e = .returned (.string r) ∧ Drawn0 w w' := by
 have d7 := Aside0.mk hr0
 have ei := Aside0.mk hc0
 clear hr0 hc0
 have H : (r4_Join.l0 k l0 (⟨#[]⟩ : ByteArray) 0) = some r := h
 clear h
 have H' := Aside0.mk H
 clear H
 go_enter Tryz.func42, Tryz.ntmps42
 go_wp2
 go_loopg [3, 4] k (fun kq v3 v4 w' => ∃ (ae : ByteArray) (ao : Int), v3 = .string ae ∧ v4 = .int .i64 ao ∧ Aside0 (r4_Join.l0 kq l0 ae ao = some r) ∧ Aside0 (kq ≤ k) ∧ Drawn0 w w')
 case atStart => exact ⟨((⟨#[]⟩ : ByteArray)), (0), Qs, Qs, H', ⟨Nat.le_refl _⟩, Q0⟩
 case round =>
  clear H'
  obtain ⟨ae, ao, rfl, rfl, HA, HK1, ⟨m1, rfl⟩⟩ := hrel
  cases gk with
  | zero => exact absurd HA.out (by simp [r4_Join.l0])
  | succ k1 =>
   have H := HA.out
   clear HA
   simp only [r4_Join.l0] at H
   by_cases c2 : ao < (l0.length : Int)
   ·rw [if_pos c2] at H
    have dI : decide (ao < (l0.length : Int)) = true := decide_eq_true c2
    clear c2
    by_cases c3 : ao > 0
    ·rw [if_pos c3] at H
     have aQ : decide (0 < ao) = true := decide_eq_true c3
     clear c3
     by_cases c4 : ae.size + 1 ≤ 9223372036854775807
     ·rw [if_pos c4] at H
      have bU := eq_true c4
      have ea : decide (ae.size + 1 ≤ 9223372036854775807) = true := decide_eq_true c4
      try have eb : (9223372036854775807 < ae.size + 1) = False := eq_false (Nat.not_lt.2 c4)
      by_cases c5 : 0 ≤ ao
      ·rw [if_pos c5] at H
       have ec : decide (0 ≤ ao) = true := decide_eq_true c5
       clear c5
       by_cases c6 : (ae ++ (⟨#[45]⟩ : ByteArray)).size + (rdOf ByteArray.empty l0 ao).size ≤ 9223372036854775807
       ·rw [if_pos c6] at H
        have ed := eq_true c6
        have ee : decide ((ae ++ (⟨#[45]⟩ : ByteArray)).size + (rdOf ByteArray.empty l0 ao).size ≤ 9223372036854775807) = true := decide_eq_true c6
        try have dJ : (9223372036854775807 < (ae ++ (⟨#[45]⟩ : ByteArray)).size + (rdOf ByteArray.empty l0 ao).size) = False := eq_false (Nat.not_lt.2 c6)
        (try (have dK := dJ; simp only [ByteArray.size_append, show (⟨#[45]⟩ : ByteArray).size = 1 from rfl] at dK))
        have H' := Aside0.mk H
        clear H
        have p373 : 0 ≤ (ao : Int) := of_decide_eq_true Qa
        have q373 : ao < (l0.length : Int) := of_decide_eq_true Qa
        obtain ⟨ad373, e373, hx373_0⟩ := Kd.at_string d7.out ao p373 q373
        cases e373
        replace p373 := eq_true p373
        replace q373 := eq_true q373
        go_wp2
        go_roundg k1
        case measure => have := HK1.out; omega
        case rel => exact ⟨((ae ++ (⟨#[45]⟩ : ByteArray)) ++ (rdOf ByteArray.empty l0 ao)), (wrap64 (ao + 1)), Qs, Qs, H', ⟨by have := HK1.out; omega⟩, Q0⟩
       ·rw [if_neg c6] at H
        exact absurd H (by simp)
      ·rw [if_neg c5] at H
       exact absurd H (by simp)
     ·rw [if_neg c4] at H
      exact absurd H (by simp)
    ·rw [if_neg c3] at H
     have aQ : decide (0 < ao) = false := decide_eq_false c3
     clear c3
     by_cases c7 : 0 ≤ ao
     ·rw [if_pos c7] at H
      have bV : decide (0 ≤ ao) = true := decide_eq_true c7
      clear c7
      by_cases c8 : ae.size + (rdOf ByteArray.empty l0 ao).size ≤ 9223372036854775807
      ·rw [if_pos c8] at H
       have ef := eq_true c8
       have eg : decide (ae.size + (rdOf ByteArray.empty l0 ao).size ≤ 9223372036854775807) = true := decide_eq_true c8
       try have eh : (9223372036854775807 < ae.size + (rdOf ByteArray.empty l0 ao).size) = False := eq_false (Nat.not_lt.2 c8)
       have H' := Aside0.mk H
       clear H
       have p374 : 0 ≤ (ao : Int) := of_decide_eq_true Qa
       have q374 : ao < (l0.length : Int) := of_decide_eq_true Qa
       obtain ⟨ad374, e374, hx374_0⟩ := Kd.at_string d7.out ao p374 q374
       cases e374
       replace p374 := eq_true p374
       replace q374 := eq_true q374
       go_wp2
       go_roundg k1
       case measure => have := HK1.out; omega
       case rel => exact ⟨(ae ++ (rdOf ByteArray.empty l0 ao)), (wrap64 (ao + 1)), Qs, Qs, H', ⟨by have := HK1.out; omega⟩, Q0⟩
      ·rw [if_neg c8] at H
       exact absurd H (by simp)
     ·rw [if_neg c7] at H
      exact absurd H (by simp)
   ·rw [if_neg c2] at H
    have dI : decide (ao < (l0.length : Int)) = false := decide_eq_false c2
    clear c2
    obtain rfl := Option.some.inj H
    go_wp2
    go_ret
    exact ⟨Qs, Q0⟩
end Go.Proofs.YtljadeeoaoiilaaGreatDoor.P
