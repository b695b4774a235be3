-- Written for this claim by the session's own run of the print, functions proved by hand put in.
import Derived.Test.YtejnfbfikadpdaaGreatDoorSq
import Derived.Test.YtejnfbfikadpdaaGreatDoorPx0
import Derived.Test.YtejnfbfikadpdaaGreatDoorPx12
namespace Go.Proofs.YtejnfbfikadpdaaGreatDoor.P
open Go.RowKit Go.Proofs.YtejnfbfikadpdaaGreatDoorW.PrintWords Go.Proofs.YtejnfbfikadpdaaGreatDoorW.PrintLast Go.Proofs.YtejnfbfikadpdaaGreatDoorW.PrintMore
open Go.Proofs.YtejnfbfikadpdaaGreatDoorW.PrintWords renaming blk_alloc → bA_, blk_drewN → bN_, blk_drew → bD_, below_alloc → wA_, pw_below_drewN → wN_, below_drew1 → wD_, below_set → wS_, below_size → wZ_
open Go.Proofs.YtejnfbfikadpdaaGreatDoorW.PrintWords.Kd renaming C_alloc → cA_, C_drewN → cN_, C_drew → cD_, C_below → cB_
theorem c8_13 {w : World} {g : Nat} {t : TypeId} {x0 x1 x2 x3 x4 x5 x6 x7 : Value} (h : w.heap[g]? = some (.cells #[x0, x1, x2, x3, x4, x5, x6, x7] t (0, 0))) : w.cell? ⟨g, 0, none⟩ = some x0 ∧ w.cell? ⟨g, 1, none⟩ = some x1 ∧ w.cell? ⟨g, 2, none⟩ = some x2 ∧ w.cell? ⟨g, 3, none⟩ = some x3 ∧ w.cell? ⟨g, 4, none⟩ = some x4 ∧ w.cell? ⟨g, 5, none⟩ = some x5 ∧ w.cell? ⟨g, 6, none⟩ = some x6 ∧ w.cell? ⟨g, 7, none⟩ = some x7 ∧ w.frozen? ⟨g, 0, none⟩ = false ∧ w.frozen? ⟨g, 1, none⟩ = false ∧ w.frozen? ⟨g, 2, none⟩ = false ∧ w.frozen? ⟨g, 3, none⟩ = false ∧ w.frozen? ⟨g, 4, none⟩ = false ∧ w.frozen? ⟨g, 5, none⟩ = false ∧ w.frozen? ⟨g, 6, none⟩ = false ∧ w.frozen? ⟨g, 7, none⟩ = false :=
  ⟨(blk_cell h 0).trans rfl, (blk_cell h 1).trans rfl, (blk_cell h 2).trans rfl, (blk_cell h 3).trans rfl, (blk_cell h 4).trans rfl, (blk_cell h 5).trans rfl, (blk_cell h 6).trans rfl, (blk_cell h 7).trans rfl, blk_frozen h 0, blk_frozen h 1, blk_frozen h 2, blk_frozen h 3, blk_frozen h 4, blk_frozen h 5, blk_frozen h 6, blk_frozen h 7⟩
attribute [local go_sem] max2_int min2_int max_two min_two max_three min_three max_four min_four   -- for this text's walks alone
set_option linter.unusedVariables false
set_option linter.unusedSimpArgs false
mutual
def r6_rows.l0 : Nat → Int → ByteArray → List ByteArray → ByteArray → ByteArray → List ByteArray → List (S47) → List ByteArray → ByteArray → Option (Bool)
 | 0, _, _, _, _, _, _, _, _, _ => none
 | k + 1, x3, ai, aj, ak, al, ad, ac, af, am => if x3 < (ad.length : Int) then (if 0 ≤ x3 then ((r6_Variant.f k (rdOf ByteArray.empty ad x3)).bind fun aO => (r6_rows.l1 k x3 aO 0 ai aj ak al ad ac af am)) else (none)) else (r6_rows.l2 k 0 ai aj ak al ad ac af am)
def r6_rows.l1 : Nat → Int → Bool → Int → ByteArray → List ByteArray → ByteArray → ByteArray → List ByteArray → List (S47) → List ByteArray → ByteArray → Option (Bool)
 | 0, _, _, _, _, _, _, _, _, _, _, _ => none
 | k + 1, x3, x4, x5, ai, aj, ak, al, ad, ac, af, am => if x5 < x3 then (if x4 = true then (if 0 ≤ x5 then (if x5 < (ad.length : Int) then (if 0 ≤ x3 then (if x3 < (ad.length : Int) then (r6_rows.l1 k x3 ((rdOf ByteArray.empty ad x5).toList != (rdOf ByteArray.empty ad x3).toList) (wrap64 (x5 + 1)) ai aj ak al ad ac af am) else (none)) else (none)) else (none)) else (none)) else (r6_rows.l1 k x3 false (wrap64 (x5 + 1)) ai aj ak al ad ac af am)) else (if x4 = true then (r6_rows.l0 k (wrap64 (x3 + 1)) ai aj ak al ad ac af am) else (some false))
def r6_rows.l2 : Nat → Int → ByteArray → List ByteArray → ByteArray → ByteArray → List ByteArray → List (S47) → List ByteArray → ByteArray → Option (Bool)
 | 0, _, _, _, _, _, _, _, _, _ => none
 | k + 1, x6, ai, aj, ak, al, ad, ac, af, am => if x6 < (ac.length : Int) then (if 0 ≤ x6 then ((r6_Singleton.f k ((rd_T47 ac x6).f0)).bind fun aE => ((r6_subs.f k ((rd_T47 ac x6).f1) 2).bind fun az => (r6_rows.l3 k x6 aE az 0 ai aj ak al ad ac af am))) else (none)) else ((r6_subs.f k af 1).bind fun aS => (some aS))
def r6_rows.l3 : Nat → Int → Bool → Bool → Int → ByteArray → List ByteArray → ByteArray → ByteArray → List ByteArray → List (S47) → List ByteArray → ByteArray → Option (Bool)
 | 0, _, _, _, _, _, _, _, _, _, _, _, _ => none
 | k + 1, x6, x7, x8, x9, ai, aj, ak, al, ad, ac, af, am => if x9 < x6 then (if x7 = true then (if 0 ≤ x9 then (if x9 < (ac.length : Int) then (if 0 ≤ x6 then (if x6 < (ac.length : Int) then (r6_rows.l3 k x6 (((rd_T47 ac x9).f0).toList != ((rd_T47 ac x6).f0).toList) x8 (wrap64 (x9 + 1)) ai aj ak al ad ac af am) else (none)) else (none)) else (none)) else (none)) else (r6_rows.l3 k x6 false x8 (wrap64 (x9 + 1)) ai aj ak al ad ac af am)) else (if x7 = true then (if x8 = true then (if 0 ≤ x6 then (if x6 < (ac.length : Int) then (if (((rd_T47 ac x6).f1).length : Int) = 0 then (some false) else (r6_rows.l2 k (wrap64 (x6 + 1)) ai aj ak al ad ac af am)) else (none)) else (none)) else (some false)) else (some false))
end
def r6_rows.f (k : Nat) (ar : ByteArray) (ap : List ByteArray) (au : ByteArray) (av : ByteArray) (ae : List ByteArray) (ab : List (S47)) (ao : List ByteArray) (aw : ByteArray) : Option (Bool) := r6_rows.l0 k 0 ar ap au av ae ab ao aw
set_option maxHeartbeats 8000000 in
set_option maxRecDepth 100000 in
theorem r6_rows.calls (k : Nat) (ar : ByteArray) (aF : Option Addr) (aG : Nat) (ap : List ByteArray) (au : ByteArray) (av : ByteArray) (aL : Option Addr) (aH : Nat) (ae : List ByteArray) (aM : Option Addr) (aI : Nat) (ab : List (S47)) (aJ : Option Addr) (aK : Nat) (ao : List ByteArray) (aw : ByteArray) (r : Bool) (w : World) (hr0_1 : Kd.C Kd.string w aF ap.length ap) (hc0_1 : ap.length ≤ aG) (hr0_4 : Kd.C Kd.string w aL ae.length ae) (hc0_4 : ae.length ≤ aH) (hr0_5 : Kd.C k47 w aM ab.length ab) (hc0_5 : ab.length ≤ aI) (hr0_6 : Kd.C Kd.string w aJ ao.length ao) (hc0_6 : ao.length ≤ aK) (h : r6_rows.f k ar ap au av ae ab ao aw = some r) :
  Calls Tryz.prog 53 #[.agg #[.string ar, .slice aF ap.length aG, .string au, .string av, .slice aL ae.length aH, .slice aM ab.length aI, .slice aJ ao.length aK, .string aw]] w fun e w' => e = .returned (.bool r) ∧ Below w.heap.size w w' := by
 have hu29 := Tryz.underlying29
 have dG := Aside0.mk hr0_1
 have dH := Aside0.mk hc0_1
 clear hr0_1 hc0_1
 have aP := Aside0.mk hr0_4
 have dI := Aside0.mk hc0_4
 clear hr0_4 hc0_4
 have aA := Aside0.mk hr0_5
 have dJ := Aside0.mk hc0_5
 clear hr0_5 hc0_5
 have bR := Aside0.mk hr0_6
 have bS := Aside0.mk hc0_6
 clear hr0_6 hc0_6
 have HB := Aside0.mk (Below.refl w.heap.size w)
 have H : (r6_rows.l0 k 0 ar ap au av ae ab ao aw) = some r := h
 clear h
 have H' := Aside0.mk H
 clear H
 go_enter Tryz.func53, Tryz.ntmps53
 go_wp2_with (first | ((with_reducible refine gate_dst (N := 1) rfl ?_); (try (refine gate_guard (by rfl) ?_; dsimp only)); refine box_event ?hg (N := 1) ?hd (cs := #[.string ar, .slice aF ap.length aG, .string au, .string av, .slice aL ae.length aH, .slice aM ab.length aI, .slice aJ ao.length aK, .string aw]) (t := 29) ?hr ?_; (case hd => rfl); (case hg => rfl); (case hr => first | (go_simp; done) | (go_simp; rfl)); intro aB hg w2 hbox hb; have dK := Aside0.mk (below_step (Qw HB.out) hb); have dL := Aside0.mk (hbox); have dM := Aside0.mk ((by rw [hg]; exact (wZ_ (Qw HB.out)) : w.heap.size ≤ aB)); have dN := Aside0.mk ((by rw [hg]; exact (wZ_ (Qw HB.out)) : w.heap.size ≤ aB)); clear HB; have HB := dK; have ag := dL; have GW391 := dM; have aq := dN; clear dK dL dM dN; clear hb hbox hg))
 go_loopg [3] k (fun kq v3 w' => ∃ (ah : Int), v3 = .int .i64 ah ∧ Aside0 (r6_rows.l0 kq ah ar ap au av ae ab ao aw = some r) ∧ Aside0 (kq ≤ k) ∧ Aside0 (w'.heap[aB]? = some (.cells #[.string ar, (.slice aF ap.length aG), .string au, .string av, (.slice aL ae.length aH), (.slice aM ab.length aI), (.slice aJ ao.length aK), .string aw] 29 (0, 0))) ∧ Aside0 (Below w.heap.size w w'))
 case atStart => exact ⟨(0), Qs, H', ⟨Nat.le_refl _⟩, ⟨Qb ag.out⟩, ⟨Qv HB.out aq.out⟩⟩
 case round =>
  clear H'
  obtain ⟨ah, rfl, HA, HK1, ag, HB⟩ := hrel
  cases gk with
  | zero => exact absurd HA.out (by simp [r6_rows.l0])
  | succ k1 =>
   have H := HA.out
   clear HA
   simp only [r6_rows.l0] at H
   by_cases c3 : ah < (ae.length : Int)
   ·rw [if_pos c3] at H
    have bv : decide (ah < (ae.length : Int)) = true := decide_eq_true c3
    clear c3
    by_cases c4 : 0 ≤ ah
    ·rw [if_pos c4] at H
     have dy : decide (0 ≤ ah) = true := decide_eq_true c4
     clear c4
     replace H := Option.bind_eq_some_iff.mp H
     obtain ⟨aO, dO, H⟩ := H
     replace H : (r6_rows.l1 k1 ah aO 0 ar ap au av ae ab ao aw) = some r := H
     have A5 := Aside0.mk dO
     clear dO
     have H' := Aside0.mk H
     clear H
     obtain ⟨bw, bx, bz, bA, bB, bC, bD, bE, bF, bG, bH, bI, bJ, bK, bL, bM⟩ := c8_13 ag.out
     have p392 : 0 ≤ (ah : Int) := of_decide_eq_true Qa
     have q392 : ah < (ae.length : Int) := of_decide_eq_true Qa
     obtain ⟨ad392, e392, hx392_0⟩ := Kd.at_string aP.out ah p392 q392
     cases e392
     replace hx392_0 := (HB.out.cell (World.block_lt_of_cell? w _ hx392_0)).trans hx392_0
     replace p392 := eq_true p392
     replace q392 := eq_true q392
     go_wp2_with (first | (go_at_call 89; (with_reducible refine (r6_Variant.calls k1 (rdOf ByteArray.empty ae ah) aO _ A5.out).mono ?_); rintro e w' ⟨rfl, ⟨nd, rfl⟩⟩; (try exact Qd)))
     go_loopg [4, 5] k1 (fun kq v4 v5 w' => ∃ (aQ : Bool) (ax : Int), v4 = .bool aQ ∧ v5 = .int .i64 ax ∧ Aside0 (r6_rows.l1 kq ah aQ ax ar ap au av ae ab ao aw = some r) ∧ Aside0 (kq ≤ k1) ∧ Aside0 (w'.heap[aB]? = some (.cells #[.string ar, (.slice aF ap.length aG), .string au, .string av, (.slice (some ad392) ae.length aH), (.slice aM ab.length aI), (.slice aJ ao.length aK), .string aw] 29 (0, 0))) ∧ Aside0 (Below w.heap.size w w'))
     case atStart => exact ⟨(aO), (0), Qs, Qs, H', ⟨Nat.le_refl _⟩, ⟨Qb ag.out⟩, ⟨Qv HB.out aq.out⟩⟩
     case round =>
      clear H'
      try clear bv; try clear dy
      try clear bw bx bz bA bB bC bD bE; try clear bF bG bH bI bJ bK bL bM
      try clear hx392_0; try clear p392; try clear q392
      obtain ⟨aQ, ax, rfl, rfl, HA, HK2, ag, HB⟩ := hrel
      cases gk with
      | zero => exact absurd HA.out (by simp [r6_rows.l1])
      | succ k2 =>
       have H := HA.out
       clear HA
       simp only [r6_rows.l1] at H
       by_cases c7 : ax < ah
       ·rw [if_pos c7] at H
        have dz : decide (ax < ah) = true := decide_eq_true c7
        clear c7
        by_cases c8 : aQ = true
        ·subst c8
         have H1 : (if 0 ≤ ax then (if ax < (ae.length : Int) then (if 0 ≤ ah then (if ah < (ae.length : Int) then (r6_rows.l1 k2 ah ((rdOf ByteArray.empty ae ax).toList != (rdOf ByteArray.empty ae ah).toList) (wrap64 (ax + 1)) ar ap au av ae ab ao aw) else (none)) else (none)) else (none)) else (none)) = some r := by rw [if_pos rfl] at H; exact H
         clear H
         have H := H1
         clear H1
         by_cases c9 : 0 ≤ ax
         ·rw [if_pos c9] at H
          have d2 : decide (0 ≤ ax) = true := decide_eq_true c9
          clear c9
          by_cases c10 : ax < (ae.length : Int)
          ·rw [if_pos c10] at H
           have dP : decide (ax < (ae.length : Int)) = true := decide_eq_true c10
           clear c10
           by_cases c11 : 0 ≤ ah
           ·rw [if_pos c11] at H
            have dQ : decide (0 ≤ ah) = true := decide_eq_true c11
            clear c11
            by_cases c12 : ah < (ae.length : Int)
            ·rw [if_pos c12] at H
             have dR : decide (ah < (ae.length : Int)) = true := decide_eq_true c12
             clear c12
             have H' := Aside0.mk H
             clear H
             obtain ⟨b0, b1, b2, b3, b4, b5, b6, b7, b8, b9, ca, cb, cc, cd, ce, cf⟩ := c8_13 ag.out
             have p394 : 0 ≤ (ax : Int) := of_decide_eq_true Qa
             have q394 : ax < (ae.length : Int) := of_decide_eq_true Qa
             obtain ⟨ad394, e394, hx394_0⟩ := Kd.at_string aP.out ax p394 q394
             obtain rfl : ad392 = ad394 := (by injection e394)
             replace hx394_0 := (HB.out.cell (World.block_lt_of_cell? w _ hx394_0)).trans hx394_0
             replace p394 := eq_true p394
             replace q394 := eq_true q394
             have p395 : 0 ≤ (ah : Int) := of_decide_eq_true Qa
             have q395 : ah < (ae.length : Int) := of_decide_eq_true Qa
             obtain ⟨ad395, e395, hx395_0⟩ := Kd.at_string aP.out ah p395 q395
             obtain rfl : ad392 = ad395 := (by injection e395)
             replace hx395_0 := (HB.out.cell (World.block_lt_of_cell? w _ hx395_0)).trans hx395_0
             replace p395 := eq_true p395
             replace q395 := eq_true q395
             go_wp2
             repeat (go_quiet (fail); try go_wp2)
             go_roundg k2
             case measure => have := HK1.out; have := HK2.out; omega
             case rel => exact ⟨(((rdOf ByteArray.empty ae ax).toList != (rdOf ByteArray.empty ae ah).toList)), (wrap64 (ax + 1)), Qs, Qs, H', ⟨by have := HK1.out; have := HK2.out; omega⟩, ⟨Qb ag.out⟩, ⟨Qv HB.out aq.out⟩⟩
            ·rw [if_neg c12] at H
             exact absurd H (by simp)
           ·rw [if_neg c11] at H
            exact absurd H (by simp)
          ·rw [if_neg c10] at H
           exact absurd H (by simp)
         ·rw [if_neg c9] at H
          exact absurd H (by simp)
        ·replace c8 := Bool.eq_false_iff.mpr c8
         subst c8
         have H1 : (r6_rows.l1 k2 ah false (wrap64 (ax + 1)) ar ap au av ae ab ao aw) = some r := by rw [if_neg (show ¬ (false = true) by decide)] at H; exact H
         clear H
         have H := H1
         clear H1
         have H' := Aside0.mk H
         clear H
         go_wp2
         repeat (go_quiet (fail); try go_wp2)
         go_roundg k2
         case measure => have := HK1.out; have := HK2.out; omega
         case rel => exact ⟨(false), (wrap64 (ax + 1)), Qs, Qs, H', ⟨by have := HK1.out; have := HK2.out; omega⟩, ⟨Qb ag.out⟩, ⟨Qv HB.out aq.out⟩⟩
       ·rw [if_neg c7] at H
        have dz : decide (ax < ah) = false := decide_eq_false c7
        clear c7
        by_cases c14 : aQ = true
        ·subst c14
         have H1 : (r6_rows.l0 k2 (wrap64 (ah + 1)) ar ap au av ae ab ao aw) = some r := by rw [if_pos rfl] at H; exact H
         clear H
         have H := H1
         clear H1
         have H' := Aside0.mk H
         clear H
         go_wp2
         go_roundg k2
         case measure => have := HK1.out; have := HK2.out; omega
         case rel => exact ⟨(wrap64 (ah + 1)), Qs, H', ⟨by have := HK1.out; have := HK2.out; omega⟩, ⟨Qb ag.out⟩, ⟨Qv HB.out aq.out⟩⟩
        ·replace c14 := Bool.eq_false_iff.mpr c14
         subst c14
         have H1 : (some false) = some r := by rw [if_neg (show ¬ (false = true) by decide)] at H; exact H
         clear H
         have H := H1
         clear H1
         obtain rfl := Option.some.inj H
         go_wp2
         go_ret
         exact ⟨Qe, Qv HB.out aq.out⟩
    ·rw [if_neg c4] at H
     exact absurd H (by simp)
   ·rw [if_neg c3] at H
    have bv : decide (ah < (ae.length : Int)) = false := decide_eq_false c3
    clear c3
    have H' := Aside0.mk H
    clear H
    obtain ⟨aT, aU, aV, aW, aX, aY, aZ, a1, a2, a3, a4, a5, a6, a7, a8, a9⟩ := c8_13 ag.out
    go_wp2
    go_loopg [6] k1 (fun kq v6 w' => ∃ (aa : Int), v6 = .int .i64 aa ∧ Aside0 (r6_rows.l2 kq aa ar ap au av ae ab ao aw = some r) ∧ Aside0 (kq ≤ k1) ∧ Aside0 (w'.heap[aB]? = some (.cells #[.string ar, (.slice aF ap.length aG), .string au, .string av, (.slice aL ae.length aH), (.slice aM ab.length aI), (.slice aJ ao.length aK), .string aw] 29 (0, 0))) ∧ Aside0 (Below w.heap.size w w'))
    case atStart => exact ⟨(0), Qs, H', ⟨Nat.le_refl _⟩, ⟨Qb ag.out⟩, ⟨Qv HB.out aq.out⟩⟩
    case round =>
     clear H'
     try clear bv
     try clear aT aU aV aW aX aY aZ a1; try clear a2 a3 a4 a5 a6 a7 a8 a9
     obtain ⟨aa, rfl, HA, HK2, ag, HB⟩ := hrel
     cases gk with
     | zero => exact absurd HA.out (by simp [r6_rows.l2])
     | succ k2 =>
      have H := HA.out
      clear HA
      simp only [r6_rows.l2] at H
      by_cases c16 : aa < (ab.length : Int)
      ·rw [if_pos c16] at H
       have bu : decide (aa < (ab.length : Int)) = true := decide_eq_true c16
       clear c16
       by_cases c17 : 0 ≤ aa
       ·rw [if_pos c17] at H
        have bT : decide (0 ≤ aa) = true := decide_eq_true c17
        clear c17
        replace H := Option.bind_eq_some_iff.mp H
        obtain ⟨aE, bU, H⟩ := H
        replace H : ((r6_subs.f k2 ((rd_T47 ab aa).f1) 2).bind fun az => (r6_rows.l3 k2 aa aE az 0 ar ap au av ae ab ao aw)) = some r := H
        have dS := Aside0.mk bU
        clear bU
        replace H := Option.bind_eq_some_iff.mp H
        obtain ⟨az, bV, H⟩ := H
        replace H : (r6_rows.l3 k2 aa aE az 0 ar ap au av ae ab ao aw) = some r := H
        have dT := Aside0.mk bV
        clear bV
        have H' := Aside0.mk H
        clear H
        obtain ⟨ba, bb, bc, bd, be, bf, bg, bh, bi, bj, bk, bm, bn, bo, bp, bq⟩ := c8_13 ag.out
        have p397 : 0 ≤ (aa : Int) := of_decide_eq_true Qa
        have q397 : aa < (ab.length : Int) := of_decide_eq_true Qa
        obtain ⟨ad397, dA, dB, e397, hx397_0, hx397_1, hl397_1, hi397_1⟩ := at_T47 aA.out aa p397 q397
        cases e397
        replace hx397_0 := (HB.out.cell (World.block_lt_of_cell? w _ hx397_0)).trans hx397_0
        replace hx397_1 := (HB.out.cell (World.block_lt_of_cell? w _ hx397_1)).trans hx397_1
        have cg := Aside0.mk hi397_1
        have ch := Aside0.mk hl397_1
        clear hi397_1 hl397_1
        replace p397 := eq_true p397
        replace q397 := eq_true q397
        go_wp2_with (first | (go_at_call 90; (with_reducible refine (r6_Singleton.calls k2 ((rd_T47 ab aa).f0) aE _ dS.out).mono ?_); rintro e w' ⟨rfl, ⟨nd, rfl⟩⟩; (try exact Qd); have p399 : 0 ≤ (aa : Int) := of_decide_eq_true Qa; have q399 : aa < (ab.length : Int) := of_decide_eq_true Qa; obtain ⟨ad399, bN, bO, e399, hx399_0, hx399_1, hl399_1, hi399_1⟩ := at_T47 aA.out aa p399 q399; obtain rfl : ad397 = ad399 := (by injection e399); replace hx399_0 := (HB.out.cell (World.block_lt_of_cell? w _ hx399_0)).trans hx399_0; replace hx399_1 := (HB.out.cell (World.block_lt_of_cell? w _ hx399_1)).trans hx399_1; have aC := Aside0.mk hi399_1; have aD := Aside0.mk hl399_1; clear hi399_1 hl399_1; replace p399 := eq_true p399; replace q399 := eq_true q399; have ea_ := Option.some.inj (hx397_1.symm.trans hx399_1); injection ea_ with ea_ en_ ec_; subst ea_; subst ec_; clear en_) | (go_at_call 49; (with_reducible refine (r6_subs.calls k2 _ _ ((rd_T47 ab aa).f1) 2 az _ ?side1 ?side2 dT.out).mono ?_); (case side1 => repeat (first | exact (cB_ aC.out (Qv HB.out aq.out)) | (with_reducible refine cA_ ?_ _) | (with_reducible refine cN_ ?_ _) | (with_reducible refine cD_ ?_))); (case side2 => exact aD.out); rintro e w' ⟨rfl, ⟨nd, rfl⟩⟩; (try exact Qd)))
        repeat (go_quiet (first | (go_at_call 90; (with_reducible refine (r6_Singleton.calls k2 ((rd_T47 ab aa).f0) aE _ dS.out).mono ?_); rintro e w' ⟨rfl, ⟨nd, rfl⟩⟩; (try exact Qd); have p399 : 0 ≤ (aa : Int) := of_decide_eq_true Qa; have q399 : aa < (ab.length : Int) := of_decide_eq_true Qa; obtain ⟨ad399, bN, bO, e399, hx399_0, hx399_1, hl399_1, hi399_1⟩ := at_T47 aA.out aa p399 q399; obtain rfl : ad397 = ad399 := (by injection e399); replace hx399_0 := (HB.out.cell (World.block_lt_of_cell? w _ hx399_0)).trans hx399_0; replace hx399_1 := (HB.out.cell (World.block_lt_of_cell? w _ hx399_1)).trans hx399_1; have aC := Aside0.mk hi399_1; have aD := Aside0.mk hl399_1; clear hi399_1 hl399_1; replace p399 := eq_true p399; replace q399 := eq_true q399; have ea_ := Option.some.inj (hx397_1.symm.trans hx399_1); injection ea_ with ea_ en_ ec_; subst ea_; subst ec_; clear en_) | (go_at_call 49; (with_reducible refine (r6_subs.calls k2 _ _ ((rd_T47 ab aa).f1) 2 az _ ?side1 ?side2 dT.out).mono ?_); (case side1 => repeat (first | exact (cB_ aC.out (Qv HB.out aq.out)) | (with_reducible refine cA_ ?_ _) | (with_reducible refine cN_ ?_ _) | (with_reducible refine cD_ ?_))); (case side2 => exact aD.out); rintro e w' ⟨rfl, ⟨nd, rfl⟩⟩; (try exact Qd))); try go_wp2_with (fail))
        go_loopg [7, 9] k2 (fun kq v7 v9 w' => ∃ (aR : Bool) (ay : Int), v7 = .bool aR ∧ v9 = .int .i64 ay ∧ Aside0 (r6_rows.l3 kq aa aR az ay ar ap au av ae ab ao aw = some r) ∧ Aside0 (kq ≤ k2) ∧ Aside0 (w'.heap[aB]? = some (.cells #[.string ar, (.slice aF ap.length aG), .string au, .string av, (.slice aL ae.length aH), (.slice (some ad397) ab.length aI), (.slice aJ ao.length aK), .string aw] 29 (0, 0))) ∧ Aside0 (Below w.heap.size w w'))
        case atStart => exact ⟨(aE), (0), Qs, Qs, H', ⟨Nat.le_refl _⟩, ⟨Qb ag.out⟩, ⟨Qv HB.out aq.out⟩⟩
        case round =>
         clear H'
         try clear bu; try clear bT
         try clear ba bb bc bd be bf bg bh; try clear bi bj bk bm bn bo bp bq
         try clear hx397_0; try clear hx397_1; try clear hx399_0; try clear hx399_1; try clear p397; try clear p399; try clear q397; try clear q399
         obtain ⟨aR, ay, rfl, rfl, HA, HK3, ag, HB⟩ := hrel
         cases gk with
         | zero => exact absurd HA.out (by simp [r6_rows.l3])
         | succ k3 =>
          have H := HA.out
          clear HA
          simp only [r6_rows.l3] at H
          by_cases c21 : ay < aa
          ·rw [if_pos c21] at H
           have bW : decide (ay < aa) = true := decide_eq_true c21
           clear c21
           by_cases c22 : aR = true
           ·subst c22
            have H1 : (if 0 ≤ ay then (if ay < (ab.length : Int) then (if 0 ≤ aa then (if aa < (ab.length : Int) then (r6_rows.l3 k3 aa (((rd_T47 ab ay).f0).toList != ((rd_T47 ab aa).f0).toList) az (wrap64 (ay + 1)) ar ap au av ae ab ao aw) else (none)) else (none)) else (none)) else (none)) = some r := by rw [if_pos rfl] at H; exact H
            clear H
            have H := H1
            clear H1
            by_cases c23 : 0 ≤ ay
            ·rw [if_pos c23] at H
             have dU : decide (0 ≤ ay) = true := decide_eq_true c23
             clear c23
             by_cases c24 : ay < (ab.length : Int)
             ·rw [if_pos c24] at H
              have dV : decide (ay < (ab.length : Int)) = true := decide_eq_true c24
              clear c24
              by_cases c25 : 0 ≤ aa
              ·rw [if_pos c25] at H
               have dW : decide (0 ≤ aa) = true := decide_eq_true c25
               clear c25
               by_cases c26 : aa < (ab.length : Int)
               ·rw [if_pos c26] at H
                have dX : decide (aa < (ab.length : Int)) = true := decide_eq_true c26
                clear c26
                have H' := Aside0.mk H
                clear H
                obtain ⟨ci, cj, ck, cl, cm, cn, co, cp, cq, cr, ct, cu, cv, cw, cx, cy⟩ := c8_13 ag.out
                have p401 : 0 ≤ (ay : Int) := of_decide_eq_true Qa
                have q401 : ay < (ab.length : Int) := of_decide_eq_true Qa
                obtain ⟨ad401, dC, dD, e401, hx401_0, hx401_1, hl401_1, hi401_1⟩ := at_T47 aA.out ay p401 q401
                obtain rfl : ad397 = ad401 := (by injection e401)
                replace hx401_0 := (HB.out.cell (World.block_lt_of_cell? w _ hx401_0)).trans hx401_0
                replace hx401_1 := (HB.out.cell (World.block_lt_of_cell? w _ hx401_1)).trans hx401_1
                have cz := Aside0.mk hi401_1
                have cA := Aside0.mk hl401_1
                clear hi401_1 hl401_1
                replace p401 := eq_true p401
                replace q401 := eq_true q401
                have p402 : 0 ≤ (aa : Int) := of_decide_eq_true Qa
                have q402 : aa < (ab.length : Int) := of_decide_eq_true Qa
                obtain ⟨ad402, dE, dF, e402, hx402_0, hx402_1, hl402_1, hi402_1⟩ := at_T47 aA.out aa p402 q402
                obtain rfl : ad397 = ad402 := (by injection e402)
                replace hx402_0 := (HB.out.cell (World.block_lt_of_cell? w _ hx402_0)).trans hx402_0
                replace hx402_1 := (HB.out.cell (World.block_lt_of_cell? w _ hx402_1)).trans hx402_1
                have cB := Aside0.mk hi402_1
                have cC := Aside0.mk hl402_1
                clear hi402_1 hl402_1
                replace p402 := eq_true p402
                replace q402 := eq_true q402
                go_wp2
                repeat (go_quiet (fail); try go_wp2)
                go_roundg k3
                case measure => have := HK1.out; have := HK2.out; have := HK3.out; omega
                case rel => exact ⟨((((rd_T47 ab ay).f0).toList != ((rd_T47 ab aa).f0).toList)), (wrap64 (ay + 1)), Qs, Qs, H', ⟨by have := HK1.out; have := HK2.out; have := HK3.out; omega⟩, ⟨Qb ag.out⟩, ⟨Qv HB.out aq.out⟩⟩
               ·rw [if_neg c26] at H
                exact absurd H (by simp)
              ·rw [if_neg c25] at H
               exact absurd H (by simp)
             ·rw [if_neg c24] at H
              exact absurd H (by simp)
            ·rw [if_neg c23] at H
             exact absurd H (by simp)
           ·replace c22 := Bool.eq_false_iff.mpr c22
            subst c22
            have H1 : (r6_rows.l3 k3 aa false az (wrap64 (ay + 1)) ar ap au av ae ab ao aw) = some r := by rw [if_neg (show ¬ (false = true) by decide)] at H; exact H
            clear H
            have H := H1
            clear H1
            have H' := Aside0.mk H
            clear H
            go_wp2
            repeat (go_quiet (fail); try go_wp2)
            go_roundg k3
            case measure => have := HK1.out; have := HK2.out; have := HK3.out; omega
            case rel => exact ⟨(false), (wrap64 (ay + 1)), Qs, Qs, H', ⟨by have := HK1.out; have := HK2.out; have := HK3.out; omega⟩, ⟨Qb ag.out⟩, ⟨Qv HB.out aq.out⟩⟩
          ·rw [if_neg c21] at H
           have bW : decide (ay < aa) = false := decide_eq_false c21
           clear c21
           by_cases c28 : aR = true
           ·subst c28
            have H1 : (if az = true then (if 0 ≤ aa then (if aa < (ab.length : Int) then (if (((rd_T47 ab aa).f1).length : Int) = 0 then (some false) else (r6_rows.l2 k3 (wrap64 (aa + 1)) ar ap au av ae ab ao aw)) else (none)) else (none)) else (some false)) = some r := by rw [if_pos rfl] at H; exact H
            clear H
            have H := H1
            clear H1
            by_cases c29 : az = true
            ·subst c29
             have H1 : (if 0 ≤ aa then (if aa < (ab.length : Int) then (if (((rd_T47 ab aa).f1).length : Int) = 0 then (some false) else (r6_rows.l2 k3 (wrap64 (aa + 1)) ar ap au av ae ab ao aw)) else (none)) else (none)) = some r := by rw [if_pos rfl] at H; exact H
             clear H
             have H := H1
             clear H1
             by_cases c30 : 0 ≤ aa
             ·rw [if_pos c30] at H
              have dY : decide (0 ≤ aa) = true := decide_eq_true c30
              clear c30
              by_cases c31 : aa < (ab.length : Int)
              ·rw [if_pos c31] at H
               have dZ : decide (aa < (ab.length : Int)) = true := decide_eq_true c31
               clear c31
               by_cases c32 : (((rd_T47 ab aa).f1).length : Int) = 0
               ·rw [if_pos c32] at H
                have bX : ((((rd_T47 ab aa).f1).length : Int) == 0) = true := beq_iff_eq.mpr c32
                have bY : ((((rd_T47 ab aa).f1).length : Int) != 0) = false := bne_eq_false_iff_eq.mpr c32
                clear c32
                obtain rfl := Option.some.inj H
                obtain ⟨cD, cE, cF, cG, cH, cI, cJ, cK, cL, cM, cN, cO, cP, cQ, cR, cS⟩ := c8_13 ag.out
                have p403 : 0 ≤ (aa : Int) := of_decide_eq_true Qa
                have q403 : aa < (ab.length : Int) := of_decide_eq_true Qa
                obtain ⟨ad403, bP, bQ, e403, hx403_0, hx403_1, hl403_1, hi403_1⟩ := at_T47 aA.out aa p403 q403
                obtain rfl : ad397 = ad403 := (by injection e403)
                replace hx403_0 := (HB.out.cell (World.block_lt_of_cell? w _ hx403_0)).trans hx403_0
                replace hx403_1 := (HB.out.cell (World.block_lt_of_cell? w _ hx403_1)).trans hx403_1
                have br := Aside0.mk hi403_1
                have bs := Aside0.mk hl403_1
                clear hi403_1 hl403_1
                replace p403 := eq_true p403
                replace q403 := eq_true q403
                go_wp2
                go_ret
                exact ⟨Qe, Qv HB.out aq.out⟩
               ·rw [if_neg c32] at H
                have bX : ((((rd_T47 ab aa).f1).length : Int) == 0) = false := beq_eq_false_iff_ne.mpr c32
                have bY : ((((rd_T47 ab aa).f1).length : Int) != 0) = true := bne_iff_ne.mpr c32
                have d0 : ¬ (((rd_T47 ab aa).f1) = []) := fun h_ => c32 (by rw [h_]; rfl)
                have H' := Aside0.mk H
                clear H
                obtain ⟨cT, cU, cV, cW, cX, cY, cZ, c0, c1, da, db, dc, dd, de, df, dg⟩ := c8_13 ag.out
                have p403 : 0 ≤ (aa : Int) := of_decide_eq_true Qa
                have q403 : aa < (ab.length : Int) := of_decide_eq_true Qa
                obtain ⟨ad403, bP, bQ, e403, hx403_0, hx403_1, hl403_1, hi403_1⟩ := at_T47 aA.out aa p403 q403
                obtain rfl : ad397 = ad403 := (by injection e403)
                replace hx403_0 := (HB.out.cell (World.block_lt_of_cell? w _ hx403_0)).trans hx403_0
                replace hx403_1 := (HB.out.cell (World.block_lt_of_cell? w _ hx403_1)).trans hx403_1
                have br := Aside0.mk hi403_1
                have bs := Aside0.mk hl403_1
                clear hi403_1 hl403_1
                replace p403 := eq_true p403
                replace q403 := eq_true q403
                go_wp2
                go_roundg k3
                case measure => have := HK1.out; have := HK2.out; have := HK3.out; omega
                case rel => exact ⟨(wrap64 (aa + 1)), Qs, H', ⟨by have := HK1.out; have := HK2.out; have := HK3.out; omega⟩, ⟨Qb ag.out⟩, ⟨Qv HB.out aq.out⟩⟩
              ·rw [if_neg c31] at H
               exact absurd H (by simp)
             ·rw [if_neg c30] at H
              exact absurd H (by simp)
            ·replace c29 := Bool.eq_false_iff.mpr c29
             subst c29
             have H1 : (some false) = some r := by rw [if_neg (show ¬ (false = true) by decide)] at H; exact H
             clear H
             have H := H1
             clear H1
             obtain rfl := Option.some.inj H
             go_wp2
             go_ret
             exact ⟨Qe, Qv HB.out aq.out⟩
           ·replace c28 := Bool.eq_false_iff.mpr c28
            subst c28
            have H1 : (some false) = some r := by rw [if_neg (show ¬ (false = true) by decide)] at H; exact H
            clear H
            have H := H1
            clear H1
            obtain rfl := Option.some.inj H
            go_wp2
            go_ret
            exact ⟨Qe, Qv HB.out aq.out⟩
       ·rw [if_neg c17] at H
        exact absurd H (by simp)
      ·rw [if_neg c16] at H
       have bu : decide (aa < (ab.length : Int)) = false := decide_eq_false c16
       clear c16
       replace H := Option.bind_eq_some_iff.mp H
       obtain ⟨aS, bZ, H⟩ := H
       replace H : (some aS) = some r := H
       have d3 := Aside0.mk bZ
       clear bZ
       obtain rfl := Option.some.inj H
       obtain ⟨dh, di, dj, dk, dl, dm, dn, dp, dq, dr, ds, dt, du, dv, dw, dx⟩ := c8_13 ag.out
       go_wp2_with (first | (go_at_call 49; (with_reducible refine (r6_subs.calls k2 _ _ ao 1 aS _ ?side1 ?side2 d3.out).mono ?_); (case side1 => exact Qc (cB_ bR.out HB.out)); (case side2 => exact bS.out); rintro e w' ⟨rfl, ⟨nd, rfl⟩⟩; (try exact Qd)))
       go_ret
       exact ⟨Qe, Qv HB.out aq.out⟩
def r6_Extlang.f (k : Nat) (a0 : ByteArray) : Option (Bool) := (r6_letters.f k a0 3 3).bind fun aN => (some aN)
set_option maxHeartbeats 8000000 in
set_option maxRecDepth 100000 in
theorem r6_Extlang.calls (k : Nat) (a0 : ByteArray) (r : Bool) (w : World) (h : r6_Extlang.f k a0 = some r) :
  Calls Tryz.prog 54 #[.string a0] w fun e w' => e = .returned (.bool r) ∧ Drawn0 w w' := by
 have H : ((r6_letters.f k a0 3 3).bind fun aN => (some aN)) = some r := h
 clear h
 replace H := Option.bind_eq_some_iff.mp H
 obtain ⟨aN, d1, H⟩ := H
 replace H : (some aN) = some r := H
 have A2 := Aside0.mk d1
 clear d1
 obtain rfl := Option.some.inj H
 go_enter Tryz.func54, Tryz.ntmps54
 go_wp2_with (first | ((with_reducible refine gate_callee (f := 87) rfl ?_); refine goesL_ (some 4) rfl rfl Tryz.func87 (by kernel_rfl) rfl #[.string a0, .int .i64 3, .int .i64 3] rfl Qm ?_; (with_reducible refine (r6_letters.calls k a0 3 3 aN _ A2.out).mono ?_); rintro e w' ⟨rfl, ⟨nd, rfl⟩⟩; refine ⟨_, rfl, ?_⟩))
 go_ret
 exact ⟨Qs, Q0⟩
end Go.Proofs.YtejnfbfikadpdaaGreatDoor.P
