-- Written for this claim by the session's own run of the print, functions proved by hand put in.
import Derived.Test.YtejnfbfikadpdaaGreatDoorSq
import Derived.Test.YtejnfbfikadpdaaGreatDoorPx0
import Derived.Test.YtejnfbfikadpdaaGreatDoorPx8
import Derived.Test.YtejnfbfikadpdaaGreatDoorPx9
namespace Go.Proofs.YtejnfbfikadpdaaGreatDoor.P
open Go.RowKit Go.Proofs.YtejnfbfikadpdaaGreatDoorW.PrintWords Go.Proofs.YtejnfbfikadpdaaGreatDoorW.PrintLast Go.Proofs.YtejnfbfikadpdaaGreatDoorW.PrintMore
open Go.Proofs.YtejnfbfikadpdaaGreatDoorW.PrintWords renaming blk_alloc → bA_, blk_drewN → bN_, blk_drew → bD_, blk_frozen → bF_, blk_cell → bC_, below_alloc → wA_, pw_below_drewN → wN_, below_drew1 → wD_, below_set → wS_, below_size → wZ_, below_step → wT_
open Go.Proofs.YtejnfbfikadpdaaGreatDoorW.PrintWords.Kd renaming C_alloc → cA_, C_drewN → cN_, C_drew → cD_, C_below → cB_
theorem c8_10 {w : World} {g : Nat} {t : TypeId} {x0 x1 x2 x3 x4 x5 x6 x7 : Value} (h : w.heap[g]? = some (.cells #[x0, x1, x2, x3, x4, x5, x6, x7] t (0, 0))) : w.cell? ⟨g, 0, none⟩ = some x0 ∧ w.cell? ⟨g, 1, none⟩ = some x1 ∧ w.cell? ⟨g, 2, none⟩ = some x2 ∧ w.cell? ⟨g, 3, none⟩ = some x3 ∧ w.cell? ⟨g, 4, none⟩ = some x4 ∧ w.cell? ⟨g, 5, none⟩ = some x5 ∧ w.cell? ⟨g, 6, none⟩ = some x6 ∧ w.cell? ⟨g, 7, none⟩ = some x7 ∧ w.frozen? ⟨g, 0, none⟩ = false ∧ w.frozen? ⟨g, 1, none⟩ = false ∧ w.frozen? ⟨g, 2, none⟩ = false ∧ w.frozen? ⟨g, 3, none⟩ = false ∧ w.frozen? ⟨g, 4, none⟩ = false ∧ w.frozen? ⟨g, 5, none⟩ = false ∧ w.frozen? ⟨g, 6, none⟩ = false ∧ w.frozen? ⟨g, 7, none⟩ = false :=
  ⟨(bC_ h 0).trans rfl, (bC_ h 1).trans rfl, (bC_ h 2).trans rfl, (bC_ h 3).trans rfl, (bC_ h 4).trans rfl, (bC_ h 5).trans rfl, (bC_ h 6).trans rfl, (bC_ h 7).trans rfl, bF_ h 0, bF_ h 1, bF_ h 2, bF_ h 3, bF_ h 4, bF_ h 5, bF_ h 6, bF_ h 7⟩
attribute [local go_sem] max2_int min2_int max_two min_two max_three min_three max_four min_four   -- for this text's walks alone
set_option linter.unusedVariables false
set_option linter.unusedSimpArgs false
def r7_Text.f (k : Nat) (ac : ByteArray) (ai : List ByteArray) (ad : ByteArray) (ae : ByteArray) (ah : List ByteArray) (aa : List (S47)) (ag : List ByteArray) (af : ByteArray) : Option (ByteArray) := (r6_Subtags.f k ac ai ad ae ah aa ag af).bind fun bb => ((r4_Join.f k bb).bind fun bc => (some bc))
set_option maxHeartbeats 8000000 in
set_option maxRecDepth 100000 in
theorem r7_Text.calls (k : Nat) (ac : ByteArray) (aF : Option Addr) (aG : Nat) (ai : List ByteArray) (ad : ByteArray) (ae : ByteArray) (aH : Option Addr) (aI : Nat) (ah : List ByteArray) (aJ : Option Addr) (aK : Nat) (aa : List (S47)) (aL : Option Addr) (aM : Nat) (ag : List ByteArray) (af : ByteArray) (r : ByteArray) (w : World) (hr0_1 : Kd.C Kd.string w aF ai.length ai) (hc0_1 : ai.length ≤ aG) (hr0_4 : Kd.C Kd.string w aH ah.length ah) (hc0_4 : ah.length ≤ aI) (hr0_5 : Kd.C k47 w aJ aa.length aa) (hc0_5 : aa.length ≤ aK) (hr0_6 : Kd.C Kd.string w aL ag.length ag) (hc0_6 : ag.length ≤ aM) (h : r7_Text.f k ac ai ad ae ah aa ag af = some r) :
  Calls Tryz.prog 12 #[.agg #[.string ac, .slice aF ai.length aG, .string ad, .string ae, .slice aH ah.length aI, .slice aJ aa.length aK, .slice aL ag.length aM, .string af]] w fun e w' => e = .returned (.string r) ∧ Below w.heap.size w w' := by
 have hu29 := Tryz.underlying29
 have bp := Aside0.mk hr0_1
 have bq := Aside0.mk hc0_1
 clear hr0_1 hc0_1
 have br := Aside0.mk hr0_4
 have bs := Aside0.mk hc0_4
 clear hr0_4 hc0_4
 have aS := Aside0.mk hr0_5
 have ck := Aside0.mk hc0_5
 clear hr0_5 hc0_5
 have bu := Aside0.mk hr0_6
 have bv := Aside0.mk hc0_6
 clear hr0_6 hc0_6
 have HB := Aside0.mk (Below.refl w.heap.size w)
 have H : ((r6_Subtags.f k ac ai ad ae ah aa ag af).bind fun bb => ((r4_Join.f k bb).bind fun bc => (some bc))) = some r := h
 clear h
 replace H := Option.bind_eq_some_iff.mp H
 obtain ⟨bb, hP, H⟩ := H
 replace H : ((r4_Join.f k bb).bind fun bc => (some bc)) = some r := H
 have A2 := Aside0.mk hP
 clear hP
 replace H := Option.bind_eq_some_iff.mp H
 obtain ⟨bc, cq, H⟩ := H
 replace H : (some bc) = some r := H
 have A3 := Aside0.mk cq
 clear cq
 obtain rfl := Option.some.inj H
 go_enter Tryz.func12, Tryz.ntmps12
 go_wp2_with (first | ((with_reducible refine gate_dst (N := 1) rfl ?_); refine box_event ?hg (N := 1) ?hd (cs := #[.string ac, .slice aF ai.length aG, .string ad, .string ae, .slice aH ah.length aI, .slice aJ aa.length aK, .slice aL ag.length aM, .string af]) (t := 29) ?hr ?_; (case hd => rfl); (case hg => rfl); (case hr => first | (go_simp; done) | (go_simp; rfl)); intro aC hg w4 hbox hb; have bw := Aside0.mk (wT_ (Qw HB.out) hb); have bx := Aside0.mk (hbox); have bz := Aside0.mk ((by rw [hg]; exact (wZ_ (Qw HB.out)) : w.heap.size ≤ aC)); have cl := Aside0.mk ((by rw [hg]; exact (wZ_ (Qw HB.out)) : w.heap.size ≤ aC)); clear HB; have HB := bw; have ay := bx; have GW330 := bz; have bA := cl; clear bw bx bz cl; clear hb hbox hg; have ht : w4.cell? ⟨aC, 0, none⟩ = some (.string ac) := (bC_ ay.out 0).trans rfl; have hu : w4.cell? ⟨aC, 1, none⟩ = some (.slice aF ai.length aG) := (bC_ ay.out 1).trans rfl; have hv : w4.cell? ⟨aC, 2, none⟩ = some (.string ad) := (bC_ ay.out 2).trans rfl; have hw : w4.cell? ⟨aC, 3, none⟩ = some (.string ae) := (bC_ ay.out 3).trans rfl; have hx : w4.cell? ⟨aC, 4, none⟩ = some (.slice aH ah.length aI) := (bC_ ay.out 4).trans rfl; have hy : w4.cell? ⟨aC, 5, none⟩ = some (.slice aJ aa.length aK) := (bC_ ay.out 5).trans rfl; have hz : w4.cell? ⟨aC, 6, none⟩ = some (.slice aL ag.length aM) := (bC_ ay.out 6).trans rfl; have hA : w4.cell? ⟨aC, 7, none⟩ = some (.string af) := (bC_ ay.out 7).trans rfl; have hB := bF_ ay.out 0; have hC := bF_ ay.out 1; have hD := bF_ ay.out 2; have hE := bF_ ay.out 3; have hF := bF_ ay.out 4; have hG := bF_ ay.out 5; have hH := bF_ ay.out 6; have hI := bF_ ay.out 7) | ((with_reducible refine gate_callee (f := 40) rfl ?_); refine goesL_ (some 4) rfl rfl Tryz.func40 (by kernel_rfl) rfl #[.agg #[.string ac, .slice aF ai.length aG, .string ad, .string ae, .slice aH ah.length aI, .slice aJ aa.length aK, .slice aL ag.length aM, .string af]] rfl Qm ?_; (with_reducible refine (r6_Subtags.calls k ac _ _ ai ad ae _ _ ah _ _ aa _ _ ag af bb _ ?side1 ?side2 ?side3 ?side4 ?side5 ?side6 ?side7 ?side8 A2.out).mono ?_); (case side1 => exact Qc (cB_ bp.out HB.out)); (case side2 => exact bq.out); (case side3 => exact Qc (cB_ br.out HB.out)); (case side4 => exact bs.out); (case side5 => exact Qc (cB_ aS.out HB.out)); (case side6 => exact ck.out); (case side7 => exact Qc (cB_ bu.out HB.out)); (case side8 => exact bv.out); rintro e w6 ⟨v332, rfl, ho0, hb⟩; refine ⟨_, rfl, ?_⟩; have bw := Aside0.mk (Kd.R_lower ho0 (wZ_ (Qv HB.out bA.out))); have bx := Aside0.mk (blk_below (g := aC) (o := .cells #[.string ac, .slice aF ai.length aG, .string ad, .string ae, .slice aH ah.length aI, .slice aJ aa.length aK, .slice aL ag.length aM, .string af] 29 (0, 0)) (Qb ay.out) hb); have bz := Aside0.mk (wT_ (Qv HB.out bA.out) hb); clear ay; clear HB; have bB := bw; have ay := bx; have HB := bz; clear bw bx bz; (try clear hb); (try clear ho0); obtain ⟨Ao7, co7, eo7⟩ := Kd.R_slice bB.out; subst eo7) | ((with_reducible refine gate_callee (f := 39) rfl ?_); refine goesL_ (some 5) rfl rfl Tryz.func39 (by kernel_rfl) rfl #[.slice Ao7 bb.length co7] rfl Qm ?_; (with_reducible refine (r4_Join.calls k _ _ bb bc _ ?side1 ?side2 A3.out).mono ?_); (case side1 => repeat (first | exact (Kd.R_reads' bB.out).2.2 | (with_reducible refine cA_ ?_ _) | (with_reducible refine cN_ ?_ _) | (with_reducible refine cD_ ?_))); (case side2 => exact (Kd.R_reads' bB.out).2.1); rintro e w' ⟨rfl, ⟨nd, rfl⟩⟩; refine ⟨_, rfl, ?_⟩))
 go_ret
 exact ⟨Qe, Qv HB.out bA.out⟩
def r4_Same.l0 : Nat → List ByteArray → List ByteArray → Int → Option (Bool)
 | 0, _, _, _ => none
 | k + 1, x0, x1, x5 => if x5 < (x0.length : Int) then (if 0 ≤ x5 then (if x5 < (x1.length : Int) then (if (rdOf ByteArray.empty x0 x5).toList = (rdOf ByteArray.empty x1 x5).toList then (r4_Same.l0 k x0 x1 (wrap64 (x5 + 1))) else (some false)) else (none)) else (none)) else (some true)
def r4_Same.f (k : Nat) (l0 : List ByteArray) (l1 : List ByteArray) : Option (Bool) := if (l0.length : Int) = (l1.length : Int) then (r4_Same.l0 k l0 l1 0) else (some false)
set_option maxHeartbeats 8000000 in
set_option maxRecDepth 100000 in
theorem r4_Same.calls (k : Nat) (A0 : Option Addr) (c0 : Nat) (l0 : List ByteArray) (A1 : Option Addr) (c1 : Nat) (l1 : List ByteArray) (r : Bool) (w : World) (hr0 : Kd.C Kd.string w A0 l0.length l0) (hc0 : l0.length ≤ c0) (hr1 : Kd.C Kd.string w A1 l1.length l1) (hc1 : l1.length ≤ c1) (h : r4_Same.f k l0 l1 = some r) :
  Calls Tryz.prog 22 #[.slice A0 l0.length c0, .slice A1 l1.length c1] w fun e w' => e = .returned (.bool r) ∧ Drawn0 w w' := by
 have hQ := Aside0.mk hr0
 have h3 := Aside0.mk hc0
 clear hr0 hc0
 have hR := Aside0.mk hr1
 have h4 := Aside0.mk hc1
 clear hr1 hc1
 have H : (if (l0.length : Int) = (l1.length : Int) then (r4_Same.l0 k l0 l1 0) else (some false)) = some r := h
 clear h
 by_cases c3 : (l0.length : Int) = (l1.length : Int)
 ·rw [if_pos c3] at H
  have bH : ((l0.length : Int) == (l1.length : Int)) = true := beq_iff_eq.mpr c3
  have bI : ((l0.length : Int) != (l1.length : Int)) = false := bne_eq_false_iff_eq.mpr c3
  have cr : (l0.length == l1.length) = true := by first | simpa using c3 | (simp at c3 ⊢; omega)
  clear c3
  have H' := Aside0.mk H
  clear H
  go_enter Tryz.func22, Tryz.ntmps22
  go_wp2
  go_loopg [5] k (fun kq v5 w' => ∃ (aw : Int), v5 = .int .i64 aw ∧ Aside0 (r4_Same.l0 kq l0 l1 aw = some r) ∧ Aside0 (kq ≤ k) ∧ Drawn0 w w')
  case atStart => exact ⟨(0), Qs, H', ⟨Nat.le_refl _⟩, Q0⟩
  case round =>
   clear H'
   try clear bH; try clear bI; try clear cr
   obtain ⟨aw, rfl, HA, HK1, ⟨m1, rfl⟩⟩ := hrel
   cases gk with
   | zero => exact absurd HA.out (by simp [r4_Same.l0])
   | succ k1 =>
    have H := HA.out
    clear HA
    simp only [r4_Same.l0] at H
    by_cases c4 : aw < (l0.length : Int)
    ·rw [if_pos c4] at H
     have ct : decide (aw < (l0.length : Int)) = true := decide_eq_true c4
     clear c4
     by_cases c5 : 0 ≤ aw
     ·rw [if_pos c5] at H
      have h0 : decide (0 ≤ aw) = true := decide_eq_true c5
      clear c5
      by_cases c6 : aw < (l1.length : Int)
      ·rw [if_pos c6] at H
       have h1 : decide (aw < (l1.length : Int)) = true := decide_eq_true c6
       clear c6
       by_cases c7 : (rdOf ByteArray.empty l0 aw).toList = (rdOf ByteArray.empty l1 aw).toList
       ·rw [if_pos c7] at H
        have hJ : ((rdOf ByteArray.empty l0 aw).toList == (rdOf ByteArray.empty l1 aw).toList) = true := beq_iff_eq.mpr c7
        have hK : ((rdOf ByteArray.empty l0 aw).toList != (rdOf ByteArray.empty l1 aw).toList) = false := bne_eq_false_iff_eq.mpr c7
        clear c7
        have H' := Aside0.mk H
        clear H
        have p335 : 0 ≤ (aw : Int) := of_decide_eq_true Qa
        have q335 : aw < (l0.length : Int) := of_decide_eq_true Qa
        obtain ⟨ad335, e335, hx335_0⟩ := Kd.at_string hQ.out aw p335 q335
        cases e335
        replace p335 := eq_true p335
        replace q335 := eq_true q335
        have p336 : 0 ≤ (aw : Int) := of_decide_eq_true Qa
        have q336 : aw < (l1.length : Int) := of_decide_eq_true Qa
        obtain ⟨ad336, e336, hx336_0⟩ := Kd.at_string hR.out aw p336 q336
        cases e336
        replace p336 := eq_true p336
        replace q336 := eq_true q336
        go_wp2
        repeat (go_quiet (fail); try go_wp2)
        go_roundg k1
        case measure => have := HK1.out; omega
        case rel => exact ⟨(wrap64 (aw + 1)), Qs, H', ⟨by have := HK1.out; omega⟩, Q0⟩
       ·rw [if_neg c7] at H
        have hJ : ((rdOf ByteArray.empty l0 aw).toList == (rdOf ByteArray.empty l1 aw).toList) = false := beq_eq_false_iff_ne.mpr c7
        have hK : ((rdOf ByteArray.empty l0 aw).toList != (rdOf ByteArray.empty l1 aw).toList) = true := bne_iff_ne.mpr c7
        obtain rfl := Option.some.inj H
        have p335 : 0 ≤ (aw : Int) := of_decide_eq_true Qa
        have q335 : aw < (l0.length : Int) := of_decide_eq_true Qa
        obtain ⟨ad335, e335, hx335_0⟩ := Kd.at_string hQ.out aw p335 q335
        cases e335
        replace p335 := eq_true p335
        replace q335 := eq_true q335
        have p336 : 0 ≤ (aw : Int) := of_decide_eq_true Qa
        have q336 : aw < (l1.length : Int) := of_decide_eq_true Qa
        obtain ⟨ad336, e336, hx336_0⟩ := Kd.at_string hR.out aw p336 q336
        cases e336
        replace p336 := eq_true p336
        replace q336 := eq_true q336
        go_wp2
        repeat (go_quiet (fail); try go_wp2)
        go_ret
        exact ⟨Qs, Q0⟩
      ·rw [if_neg c6] at H
       exact absurd H (by simp)
     ·rw [if_neg c5] at H
      exact absurd H (by simp)
    ·rw [if_neg c4] at H
     have ct : decide (aw < (l0.length : Int)) = false := decide_eq_false c4
     clear c4
     obtain rfl := Option.some.inj H
     go_wp2
     go_ret
     exact ⟨Qs, Q0⟩
 ·rw [if_neg c3] at H
  have bH : ((l0.length : Int) == (l1.length : Int)) = false := beq_eq_false_iff_ne.mpr c3
  have bI : ((l0.length : Int) != (l1.length : Int)) = true := bne_iff_ne.mpr c3
  have cr : (l0.length == l1.length) = false := by first | simpa using c3 | (simp at c3 ⊢; omega)
  obtain rfl := Option.some.inj H
  go_enter Tryz.func22, Tryz.ntmps22
  go_wp2
  go_ret
  exact ⟨Qs, Q0⟩
mutual
def r6_Same.j0 : Nat → Bool → ByteArray → List ByteArray → ByteArray → ByteArray → List ByteArray → List (S47) → List ByteArray → ByteArray → ByteArray → List ByteArray → ByteArray → ByteArray → List ByteArray → List (S47) → List ByteArray → ByteArray → Option (Bool)
 | 0, _, _, _, _, _, _, _, _, _, _, _, _, _, _, _, _, _ => none
 | k + 1, x71, aU, aV, aW, aX, aY, aD, aZ, a2, a3, a4, a5, a6, a7, aE, a8, a9 => if x71 = true then (some false) else (r6_Same.l0 k 0 aU aV aW aX aY aD aZ a2 a3 a4 a5 a6 a7 aE a8 a9)
def r6_Same.l0 : Nat → Int → ByteArray → List ByteArray → ByteArray → ByteArray → List ByteArray → List (S47) → List ByteArray → ByteArray → ByteArray → List ByteArray → ByteArray → ByteArray → List ByteArray → List (S47) → List ByteArray → ByteArray → Option (Bool)
 | 0, _, _, _, _, _, _, _, _, _, _, _, _, _, _, _, _, _ => none
 | k + 1, x8, aU, aV, aW, aX, aY, aD, aZ, a2, a3, a4, a5, a6, a7, aE, a8, a9 => if x8 < (aD.length : Int) then (if 0 ≤ x8 then (if x8 < (aE.length : Int) then ((r4_Same.f k ((rd_T47 aD x8).f1) ((rd_T47 aE x8).f1)).bind fun bJ => (if bJ = true then (if ((rd_T47 aD x8).f0).toList = ((rd_T47 aE x8).f0).toList then (r6_Same.l0 k (wrap64 (x8 + 1)) aU aV aW aX aY aD aZ a2 a3 a4 a5 a6 a7 aE a8 a9) else (some false)) else (some false))) else (none)) else (none)) else (some true)
end
def r6_Same.f (k : Nat) (ac : ByteArray) (ai : List ByteArray) (ad : ByteArray) (ae : ByteArray) (ah : List ByteArray) (aa : List (S47)) (ag : List ByteArray) (af : ByteArray) (aj : ByteArray) (aq : List ByteArray) (ak : ByteArray) (al : ByteArray) (ap : List ByteArray) (ab : List (S47)) (ao : List ByteArray) (am : ByteArray) : Option (Bool) := (r4_Same.f k ai aq).bind fun ba => ((r4_Same.f k ah ap).bind fun aT => ((r4_Same.f k ag ao).bind fun aR => (if ba = true then (if aT = true then (if aR = true then (if ac.toList = aj.toList then (if ad.toList = ak.toList then (if ae.toList = al.toList then (if af.toList = am.toList then (r6_Same.j0 k ((aa.length : Int) != (ab.length : Int)) ac ai ad ae ah aa ag af aj aq ak al ap ab ao am) else (r6_Same.j0 k true ac ai ad ae ah aa ag af aj aq ak al ap ab ao am)) else (r6_Same.j0 k true ac ai ad ae ah aa ag af aj aq ak al ap ab ao am)) else (r6_Same.j0 k true ac ai ad ae ah aa ag af aj aq ak al ap ab ao am)) else (r6_Same.j0 k true ac ai ad ae ah aa ag af aj aq ak al ap ab ao am)) else (r6_Same.j0 k true ac ai ad ae ah aa ag af aj aq ak al ap ab ao am)) else (r6_Same.j0 k true ac ai ad ae ah aa ag af aj aq ak al ap ab ao am)) else (r6_Same.j0 k true ac ai ad ae ah aa ag af aj aq ak al ap ab ao am))))
set_option maxHeartbeats 8000000 in
set_option maxRecDepth 100000 in
theorem r6_Same.calls (k : Nat) (ac : ByteArray) (aF : Option Addr) (aG : Nat) (ai : List ByteArray) (ad : ByteArray) (ae : ByteArray) (aH : Option Addr) (aI : Nat) (ah : List ByteArray) (aJ : Option Addr) (aK : Nat) (aa : List (S47)) (aL : Option Addr) (aM : Nat) (ag : List ByteArray) (af : ByteArray) (aj : ByteArray) (bg : Option Addr) (bh : Nat) (aq : List ByteArray) (ak : ByteArray) (al : ByteArray) (bi : Option Addr) (bj : Nat) (ap : List ByteArray) (bk : Option Addr) (bm : Nat) (ab : List (S47)) (bn : Option Addr) (bo : Nat) (ao : List ByteArray) (am : ByteArray) (r : Bool) (w : World) (hr0_1 : Kd.C Kd.string w aF ai.length ai) (hc0_1 : ai.length ≤ aG) (hr0_4 : Kd.C Kd.string w aH ah.length ah) (hc0_4 : ah.length ≤ aI) (hr0_5 : Kd.C k47 w aJ aa.length aa) (hc0_5 : aa.length ≤ aK) (hr0_6 : Kd.C Kd.string w aL ag.length ag) (hc0_6 : ag.length ≤ aM) (hr1_1 : Kd.C Kd.string w bg aq.length aq) (hc1_1 : aq.length ≤ bh) (hr1_4 : Kd.C Kd.string w bi ap.length ap) (hc1_4 : ap.length ≤ bj) (hr1_5 : Kd.C k47 w bk ab.length ab) (hc1_5 : ab.length ≤ bm) (hr1_6 : Kd.C Kd.string w bn ao.length ao) (hc1_6 : ao.length ≤ bo) (h : r6_Same.f k ac ai ad ae ah aa ag af aj aq ak al ap ab ao am = some r) :
  Calls Tryz.prog 16 #[.agg #[.string ac, .slice aF ai.length aG, .string ad, .string ae, .slice aH ah.length aI, .slice aJ aa.length aK, .slice aL ag.length aM, .string af], .agg #[.string aj, .slice bg aq.length bh, .string ak, .string al, .slice bi ap.length bj, .slice bk ab.length bm, .slice bn ao.length bo, .string am]] w fun e w' => e = .returned (.bool r) ∧ Below w.heap.size w w' := by
 have hu29 := Tryz.underlying29
 have bp := Aside0.mk hr0_1
 have bq := Aside0.mk hc0_1
 clear hr0_1 hc0_1
 have br := Aside0.mk hr0_4
 have bs := Aside0.mk hc0_4
 clear hr0_4 hc0_4
 have aS := Aside0.mk hr0_5
 have ck := Aside0.mk hc0_5
 clear hr0_5 hc0_5
 have bu := Aside0.mk hr0_6
 have bv := Aside0.mk hc0_6
 clear hr0_6 hc0_6
 have cu := Aside0.mk hr1_1
 have cv := Aside0.mk hc1_1
 clear hr1_1 hc1_1
 have cw := Aside0.mk hr1_4
 have cx := Aside0.mk hc1_4
 clear hr1_4 hc1_4
 have bd := Aside0.mk hr1_5
 have hS := Aside0.mk hc1_5
 clear hr1_5 hc1_5
 have cy := Aside0.mk hr1_6
 have cz := Aside0.mk hc1_6
 clear hr1_6 hc1_6
 have HB := Aside0.mk (Below.refl w.heap.size w)
 have H : ((r4_Same.f k ai aq).bind fun ba => ((r4_Same.f k ah ap).bind fun aT => ((r4_Same.f k ag ao).bind fun aR => (if ba = true then (if aT = true then (if aR = true then (if ac.toList = aj.toList then (if ad.toList = ak.toList then (if ae.toList = al.toList then (if af.toList = am.toList then (r6_Same.j0 k ((aa.length : Int) != (ab.length : Int)) ac ai ad ae ah aa ag af aj aq ak al ap ab ao am) else (r6_Same.j0 k true ac ai ad ae ah aa ag af aj aq ak al ap ab ao am)) else (r6_Same.j0 k true ac ai ad ae ah aa ag af aj aq ak al ap ab ao am)) else (r6_Same.j0 k true ac ai ad ae ah aa ag af aj aq ak al ap ab ao am)) else (r6_Same.j0 k true ac ai ad ae ah aa ag af aj aq ak al ap ab ao am)) else (r6_Same.j0 k true ac ai ad ae ah aa ag af aj aq ak al ap ab ao am)) else (r6_Same.j0 k true ac ai ad ae ah aa ag af aj aq ak al ap ab ao am)) else (r6_Same.j0 k true ac ai ad ae ah aa ag af aj aq ak al ap ab ao am))))) = some r := h
 clear h
 replace H := Option.bind_eq_some_iff.mp H
 obtain ⟨ba, cq, H⟩ := H
 replace H : ((r4_Same.f k ah ap).bind fun aT => ((r4_Same.f k ag ao).bind fun aR => (if ba = true then (if aT = true then (if aR = true then (if ac.toList = aj.toList then (if ad.toList = ak.toList then (if ae.toList = al.toList then (if af.toList = am.toList then (r6_Same.j0 k ((aa.length : Int) != (ab.length : Int)) ac ai ad ae ah aa ag af aj aq ak al ap ab ao am) else (r6_Same.j0 k true ac ai ad ae ah aa ag af aj aq ak al ap ab ao am)) else (r6_Same.j0 k true ac ai ad ae ah aa ag af aj aq ak al ap ab ao am)) else (r6_Same.j0 k true ac ai ad ae ah aa ag af aj aq ak al ap ab ao am)) else (r6_Same.j0 k true ac ai ad ae ah aa ag af aj aq ak al ap ab ao am)) else (r6_Same.j0 k true ac ai ad ae ah aa ag af aj aq ak al ap ab ao am)) else (r6_Same.j0 k true ac ai ad ae ah aa ag af aj aq ak al ap ab ao am)) else (r6_Same.j0 k true ac ai ad ae ah aa ag af aj aq ak al ap ab ao am)))) = some r := H
 have A3 := Aside0.mk cq
 clear cq
 replace H := Option.bind_eq_some_iff.mp H
 obtain ⟨aT, hT, H⟩ := H
 replace H : ((r4_Same.f k ag ao).bind fun aR => (if ba = true then (if aT = true then (if aR = true then (if ac.toList = aj.toList then (if ad.toList = ak.toList then (if ae.toList = al.toList then (if af.toList = am.toList then (r6_Same.j0 k ((aa.length : Int) != (ab.length : Int)) ac ai ad ae ah aa ag af aj aq ak al ap ab ao am) else (r6_Same.j0 k true ac ai ad ae ah aa ag af aj aq ak al ap ab ao am)) else (r6_Same.j0 k true ac ai ad ae ah aa ag af aj aq ak al ap ab ao am)) else (r6_Same.j0 k true ac ai ad ae ah aa ag af aj aq ak al ap ab ao am)) else (r6_Same.j0 k true ac ai ad ae ah aa ag af aj aq ak al ap ab ao am)) else (r6_Same.j0 k true ac ai ad ae ah aa ag af aj aq ak al ap ab ao am)) else (r6_Same.j0 k true ac ai ad ae ah aa ag af aj aq ak al ap ab ao am)) else (r6_Same.j0 k true ac ai ad ae ah aa ag af aj aq ak al ap ab ao am))) = some r := H
 have A4 := Aside0.mk hT
 clear hT
 replace H := Option.bind_eq_some_iff.mp H
 obtain ⟨aR, hU, H⟩ := H
 replace H : (if ba = true then (if aT = true then (if aR = true then (if ac.toList = aj.toList then (if ad.toList = ak.toList then (if ae.toList = al.toList then (if af.toList = am.toList then (r6_Same.j0 k ((aa.length : Int) != (ab.length : Int)) ac ai ad ae ah aa ag af aj aq ak al ap ab ao am) else (r6_Same.j0 k true ac ai ad ae ah aa ag af aj aq ak al ap ab ao am)) else (r6_Same.j0 k true ac ai ad ae ah aa ag af aj aq ak al ap ab ao am)) else (r6_Same.j0 k true ac ai ad ae ah aa ag af aj aq ak al ap ab ao am)) else (r6_Same.j0 k true ac ai ad ae ah aa ag af aj aq ak al ap ab ao am)) else (r6_Same.j0 k true ac ai ad ae ah aa ag af aj aq ak al ap ab ao am)) else (r6_Same.j0 k true ac ai ad ae ah aa ag af aj aq ak al ap ab ao am)) else (r6_Same.j0 k true ac ai ad ae ah aa ag af aj aq ak al ap ab ao am)) = some r := H
 have A5 := Aside0.mk hU
 clear hU
 have hL := Aside0.mk H
 clear H
 go_enter Tryz.func16, Tryz.ntmps16
 go_upto_region 4 with (first | ((with_reducible refine gate_dst (N := 2) rfl ?_); (try (refine gate_guard (by rfl) ?_; dsimp only)); refine box_event ?hg (N := 2) ?hd (cs := #[.string ac, .slice aF ai.length aG, .string ad, .string ae, .slice aH ah.length aI, .slice aJ aa.length aK, .slice aL ag.length aM, .string af]) (t := 29) ?hr ?_; (case hd => rfl); (case hg => rfl); (case hr => first | (go_simp; done) | (go_simp; rfl)); intro aA hg w7 hbox hb; have bw := Aside0.mk (wT_ (Qw HB.out) hb); have bx := Aside0.mk (hbox); have bz := Aside0.mk ((by rw [hg]; exact (wZ_ (Qw HB.out)) : w.heap.size ≤ aA)); have cl := Aside0.mk ((by rw [hg]; exact (wZ_ (Qw HB.out)) : w.heap.size ≤ aA)); clear HB; have HB := bw; have ar := bx; have GW337 := bz; have ax := cl; clear bw bx bz cl; clear hb hbox hg) | ((with_reducible refine gate_dst (N := 3) rfl ?_); (try (refine gate_guard (by rfl) ?_; dsimp only)); refine box_event ?hg (N := 3) ?hd (cs := #[.string aj, .slice bg aq.length bh, .string ak, .string al, .slice bi ap.length bj, .slice bk ab.length bm, .slice bn ao.length bo, .string am]) (t := 29) ?hr ?_; (case hd => rfl); (case hg => rfl); (case hr => first | (go_simp; done) | (go_simp; rfl)); intro aB hg w8 hbox hb; have bw := Aside0.mk (blk_below (g := aA) (o := .cells #[.string ac, .slice aF ai.length aG, .string ad, .string ae, .slice aH ah.length aI, .slice aJ aa.length aK, .slice aL ag.length aM, .string af] 29 (0, 0)) (Qb ar.out) hb); have bx := Aside0.mk (wT_ (Qv HB.out ax.out) hb); have bz := Aside0.mk (hbox); have cl := Aside0.mk ((by rw [hg]; exact (wZ_ (Qv HB.out ax.out)) : w.heap.size ≤ aB)); have hV := Aside0.mk ((by rw [hg]; exact (wZ_ (Qv HB.out ax.out)) : w.heap.size ≤ aB)); have hW := Aside0.mk ((by rw [hg]; exact Nat.ne_of_lt (blk_lt (g := aA) (o := .cells #[.string ac, .slice aF ai.length aG, .string ad, .string ae, .slice aH ah.length aI, .slice aJ aa.length aK, .slice aL ag.length aM, .string af] 29 (0, 0)) (Qb ar.out)) : aA ≠ aB)); have hX := Aside0.mk ((by rw [hg]; exact Nat.ne_of_gt (blk_lt (g := aA) (o := .cells #[.string ac, .slice aF ai.length aG, .string ad, .string ae, .slice aH ah.length aI, .slice aJ aa.length aK, .slice aL ag.length aM, .string af] 29 (0, 0)) (Qb ar.out)) : aB ≠ aA)); clear ar; clear HB; have ar := bw; have HB := bx; have av := bz; have GW338 := cl; have az := hV; have NB337_338 := hW; have NB338_337 := hX; clear bw bx bz cl hV hW hX; clear hb hbox hg; have hnb9 := NB337_338.out; have hnc9 := NB338_337.out; have bK : w8.cell? ⟨aA, 0, none⟩ = some (.string ac) := (bC_ ar.out 0).trans rfl; have bL : w8.cell? ⟨aA, 1, none⟩ = some (.slice aF ai.length aG) := (bC_ ar.out 1).trans rfl; have bM : w8.cell? ⟨aA, 2, none⟩ = some (.string ad) := (bC_ ar.out 2).trans rfl; have bN : w8.cell? ⟨aA, 3, none⟩ = some (.string ae) := (bC_ ar.out 3).trans rfl; have bO : w8.cell? ⟨aA, 4, none⟩ = some (.slice aH ah.length aI) := (bC_ ar.out 4).trans rfl; have bP : w8.cell? ⟨aA, 5, none⟩ = some (.slice aJ aa.length aK) := (bC_ ar.out 5).trans rfl; have bQ : w8.cell? ⟨aA, 6, none⟩ = some (.slice aL ag.length aM) := (bC_ ar.out 6).trans rfl; have bR : w8.cell? ⟨aA, 7, none⟩ = some (.string af) := (bC_ ar.out 7).trans rfl; have bS := bF_ ar.out 0; have bT := bF_ ar.out 1; have bU := bF_ ar.out 2; have bV := bF_ ar.out 3; have bW := bF_ ar.out 4; have bX := bF_ ar.out 5; have bY := bF_ ar.out 6; have bZ := bF_ ar.out 7; have b0 : w8.cell? ⟨aB, 0, none⟩ = some (.string aj) := (bC_ av.out 0).trans rfl; have b1 : w8.cell? ⟨aB, 1, none⟩ = some (.slice bg aq.length bh) := (bC_ av.out 1).trans rfl; have b2 : w8.cell? ⟨aB, 2, none⟩ = some (.string ak) := (bC_ av.out 2).trans rfl; have b3 : w8.cell? ⟨aB, 3, none⟩ = some (.string al) := (bC_ av.out 3).trans rfl; have b4 : w8.cell? ⟨aB, 4, none⟩ = some (.slice bi ap.length bj) := (bC_ av.out 4).trans rfl; have b5 : w8.cell? ⟨aB, 5, none⟩ = some (.slice bk ab.length bm) := (bC_ av.out 5).trans rfl; have b6 : w8.cell? ⟨aB, 6, none⟩ = some (.slice bn ao.length bo) := (bC_ av.out 6).trans rfl; have b7 : w8.cell? ⟨aB, 7, none⟩ = some (.string am) := (bC_ av.out 7).trans rfl; have b8 := bF_ av.out 0; have b9 := bF_ av.out 1; have ca := bF_ av.out 2; have cb := bF_ av.out 3; have cc := bF_ av.out 4; have cd := bF_ av.out 5; have ce := bF_ av.out 6; have cf := bF_ av.out 7) | (go_at_call 22; (with_reducible refine (r4_Same.calls k _ _ ai _ _ aq ba _ ?side1 ?side2 ?side3 ?side4 A3.out).mono ?_); (case side1 => exact Qc (cB_ bp.out HB.out)); (case side2 => exact bq.out); (case side3 => exact Qc (cB_ cu.out HB.out)); (case side4 => exact cv.out); rintro e w' ⟨rfl, ⟨nd, rfl⟩⟩; (try exact Qd)) | (go_at_call 22; (with_reducible refine (r4_Same.calls k _ _ ah _ _ ap aT _ ?side1 ?side2 ?side3 ?side4 A4.out).mono ?_); (case side1 => repeat (first | exact (cB_ br.out (Qy HB.out ax.out az.out)) | (with_reducible refine cA_ ?_ _) | (with_reducible refine cN_ ?_ _) | (with_reducible refine cD_ ?_))); (case side2 => exact bs.out); (case side3 => repeat (first | exact (cB_ cw.out (Qy HB.out ax.out az.out)) | (with_reducible refine cA_ ?_ _) | (with_reducible refine cN_ ?_ _) | (with_reducible refine cD_ ?_))); (case side4 => exact cx.out); rintro e w' ⟨rfl, ⟨nd, rfl⟩⟩; (try exact Qd)) | (go_at_call 22; (with_reducible refine (r4_Same.calls k _ _ ag _ _ ao aR _ ?side1 ?side2 ?side3 ?side4 A5.out).mono ?_); (case side1 => repeat (first | exact (cB_ bu.out (Qy HB.out ax.out az.out)) | (with_reducible refine cA_ ?_ _) | (with_reducible refine cN_ ?_ _) | (with_reducible refine cD_ ?_))); (case side2 => exact bv.out); (case side3 => repeat (first | exact (cB_ cy.out (Qy HB.out ax.out az.out)) | (with_reducible refine cA_ ?_ _) | (with_reducible refine cN_ ?_ _) | (with_reducible refine cD_ ?_))); (case side4 => exact cz.out); rintro e w' ⟨rfl, ⟨nd, rfl⟩⟩; (try exact Qd)))
 (try simp only [Act.put, List.setIfInBounds_toArray, List.set_cons_zero, List.set_cons_succ])
 go_cut [71] (fun v71 wc => ∃ (kq : Nat) (bf : Bool), v71 = .bool bf ∧ Aside0 (r6_Same.j0 kq bf ac ai ad ae ah aa ag af aj aq ak al ap ab ao am = some r) ∧ Aside0 (kq ≤ k) ∧ Aside0 (wc.heap[aA]? = some (.cells #[.string ac, (.slice aF ai.length aG), .string ad, .string ae, (.slice aH ah.length aI), (.slice aJ aa.length aK), (.slice aL ag.length aM), .string af] 29 (0, 0))) ∧ Aside0 (wc.heap[aB]? = some (.cells #[.string aj, (.slice bg aq.length bh), .string ak, .string al, (.slice bi ap.length bj), (.slice bk ab.length bm), (.slice bn ao.length bo), .string am] 29 (0, 0))) ∧ Aside0 (Below w.heap.size w wc))
 case first =>
  have H := hL.out
  clear hL
  by_cases c12 : ba = true
  ·subst c12
   have H1 : (if aT = true then (if aR = true then (if ac.toList = aj.toList then (if ad.toList = ak.toList then (if ae.toList = al.toList then (if af.toList = am.toList then (r6_Same.j0 k ((aa.length : Int) != (ab.length : Int)) ac ai ad ae ah aa ag af aj aq ak al ap ab ao am) else (r6_Same.j0 k true ac ai ad ae ah aa ag af aj aq ak al ap ab ao am)) else (r6_Same.j0 k true ac ai ad ae ah aa ag af aj aq ak al ap ab ao am)) else (r6_Same.j0 k true ac ai ad ae ah aa ag af aj aq ak al ap ab ao am)) else (r6_Same.j0 k true ac ai ad ae ah aa ag af aj aq ak al ap ab ao am)) else (r6_Same.j0 k true ac ai ad ae ah aa ag af aj aq ak al ap ab ao am)) else (r6_Same.j0 k true ac ai ad ae ah aa ag af aj aq ak al ap ab ao am)) = some r := by rw [if_pos rfl] at H; exact H
   clear H
   have H := H1
   clear H1
   by_cases c13 : aT = true
   ·subst c13
    have H1 : (if aR = true then (if ac.toList = aj.toList then (if ad.toList = ak.toList then (if ae.toList = al.toList then (if af.toList = am.toList then (r6_Same.j0 k ((aa.length : Int) != (ab.length : Int)) ac ai ad ae ah aa ag af aj aq ak al ap ab ao am) else (r6_Same.j0 k true ac ai ad ae ah aa ag af aj aq ak al ap ab ao am)) else (r6_Same.j0 k true ac ai ad ae ah aa ag af aj aq ak al ap ab ao am)) else (r6_Same.j0 k true ac ai ad ae ah aa ag af aj aq ak al ap ab ao am)) else (r6_Same.j0 k true ac ai ad ae ah aa ag af aj aq ak al ap ab ao am)) else (r6_Same.j0 k true ac ai ad ae ah aa ag af aj aq ak al ap ab ao am)) = some r := by rw [if_pos rfl] at H; exact H
    clear H
    have H := H1
    clear H1
    by_cases c14 : aR = true
    ·subst c14
     have H1 : (if ac.toList = aj.toList then (if ad.toList = ak.toList then (if ae.toList = al.toList then (if af.toList = am.toList then (r6_Same.j0 k ((aa.length : Int) != (ab.length : Int)) ac ai ad ae ah aa ag af aj aq ak al ap ab ao am) else (r6_Same.j0 k true ac ai ad ae ah aa ag af aj aq ak al ap ab ao am)) else (r6_Same.j0 k true ac ai ad ae ah aa ag af aj aq ak al ap ab ao am)) else (r6_Same.j0 k true ac ai ad ae ah aa ag af aj aq ak al ap ab ao am)) else (r6_Same.j0 k true ac ai ad ae ah aa ag af aj aq ak al ap ab ao am)) = some r := by rw [if_pos rfl] at H; exact H
     clear H
     have H := H1
     clear H1
     by_cases c15 : ac.toList = aj.toList
     ·rw [if_pos c15] at H
      have be : (ac.toList == aj.toList) = true := beq_iff_eq.mpr c15
      have bC : (ac.toList != aj.toList) = false := bne_eq_false_iff_eq.mpr c15
      clear c15
      (first | rw [be] | rw [bC] | (simp only [i64_w, i32_w]; rw [be]) | skip)
      by_cases c16 : ad.toList = ak.toList
      ·rw [if_pos c16] at H
       have cA : (ad.toList == ak.toList) = true := beq_iff_eq.mpr c16
       have cB : (ad.toList != ak.toList) = false := bne_eq_false_iff_eq.mpr c16
       clear c16
       by_cases c17 : ae.toList = al.toList
       ·rw [if_pos c17] at H
        have cC : (ae.toList == al.toList) = true := beq_iff_eq.mpr c17
        have cD : (ae.toList != al.toList) = false := bne_eq_false_iff_eq.mpr c17
        clear c17
        by_cases c18 : af.toList = am.toList
        ·rw [if_pos c18] at H
         have cE : (af.toList == am.toList) = true := beq_iff_eq.mpr c18
         have cF : (af.toList != am.toList) = false := bne_eq_false_iff_eq.mpr c18
         clear c18
         have H' := Aside0.mk H
         clear H
         have hnb19 := NB337_338.out
         have hnc19 := NB338_337.out
         obtain ⟨cK, cL, cM, cN, cO, cP, cQ, cR, cS, cT, cU, cV, cW, cX, cY, cZ⟩ := c8_10 ar.out
         obtain ⟨da, db, dc, dd, de, df, dg, dh, di, dj, dk, dl, dm, dn, dp, dq⟩ := c8_10 av.out
         go_wp2
         go_meet
         case rel => exact ⟨_, (((aa.length : Int) != (ab.length : Int))), Qs, H', ⟨by first | omega | exact Nat.le_refl _⟩, ⟨Qb ar.out⟩, ⟨Qb av.out⟩, ⟨Qy HB.out ax.out az.out⟩⟩
        ·rw [if_neg c18] at H
         have cE : (af.toList == am.toList) = false := beq_eq_false_iff_ne.mpr c18
         have cF : (af.toList != am.toList) = true := bne_iff_ne.mpr c18
         have H' := Aside0.mk H
         clear H
         have hnb22 := NB337_338.out
         have hnc22 := NB338_337.out
         obtain ⟨dr, ds, dt, du, dv, dw, dx, dy, dz, dA, dB, dC, dD, dE, dF, dG⟩ := c8_10 ar.out
         obtain ⟨dH, dI, dJ, dK, dL, dM, dN, dO, dP, dQ, dR, dS, dT, dU, dV, dW⟩ := c8_10 av.out
         go_wp2
         go_meet
         case rel => exact ⟨_, (true), Qs, H', ⟨by first | omega | exact Nat.le_refl _⟩, ⟨Qb ar.out⟩, ⟨Qb av.out⟩, ⟨Qy HB.out ax.out az.out⟩⟩
       ·rw [if_neg c17] at H
        have cC : (ae.toList == al.toList) = false := beq_eq_false_iff_ne.mpr c17
        have cD : (ae.toList != al.toList) = true := bne_iff_ne.mpr c17
        have H' := Aside0.mk H
        clear H
        have hnb25 := NB337_338.out
        have hnc25 := NB338_337.out
        obtain ⟨dX, dY, dZ, d0, d1, d2, d3, d4, d5, d6, d7, d8, d9, ea, eb, ec⟩ := c8_10 ar.out
        obtain ⟨ed, ee, ef, eg, eh, ei, ej, ek, el, em, en, eo, ep, eq, er, es⟩ := c8_10 av.out
        go_wp2
        go_meet
        case rel => exact ⟨_, (true), Qs, H', ⟨by first | omega | exact Nat.le_refl _⟩, ⟨Qb ar.out⟩, ⟨Qb av.out⟩, ⟨Qy HB.out ax.out az.out⟩⟩
      ·rw [if_neg c16] at H
       have cA : (ad.toList == ak.toList) = false := beq_eq_false_iff_ne.mpr c16
       have cB : (ad.toList != ak.toList) = true := bne_iff_ne.mpr c16
       have H' := Aside0.mk H
       clear H
       have hnb28 := NB337_338.out
       have hnc28 := NB338_337.out
       obtain ⟨eu, ev, ew, ex, ey, ez, eA, eB, eC, eD, eE, eF, eG, eH, eI, eJ⟩ := c8_10 ar.out
       obtain ⟨eK, eL, eM, eN, eO, eP, eQ, eR, eS, eT, eU, eV, eW, eX, eY, eZ⟩ := c8_10 av.out
       go_wp2
       go_meet
       case rel => exact ⟨_, (true), Qs, H', ⟨by first | omega | exact Nat.le_refl _⟩, ⟨Qb ar.out⟩, ⟨Qb av.out⟩, ⟨Qy HB.out ax.out az.out⟩⟩
     ·rw [if_neg c15] at H
      have be : (ac.toList == aj.toList) = false := beq_eq_false_iff_ne.mpr c15
      have bC : (ac.toList != aj.toList) = true := bne_iff_ne.mpr c15
      (first | rw [be] | rw [bC] | (simp only [i64_w, i32_w]; rw [be]) | skip)
      have H' := Aside0.mk H
      clear H
      have hnb31 := NB337_338.out
      have hnc31 := NB338_337.out
      obtain ⟨e0, e1, e2, e3, e4, e5, e6, e7, e8, e9, fa, fb, fc, fd, fe, ff⟩ := c8_10 ar.out
      obtain ⟨fg, fh, fi, fj, fk, fl, fm, fn, fo, fp, fq, fr, fs, ft, fu, fv⟩ := c8_10 av.out
      go_wp2
      go_meet
      case rel => exact ⟨_, (true), Qs, H', ⟨by first | omega | exact Nat.le_refl _⟩, ⟨Qb ar.out⟩, ⟨Qb av.out⟩, ⟨Qy HB.out ax.out az.out⟩⟩
    ·replace c14 := Bool.eq_false_iff.mpr c14
     subst c14
     have H1 : (r6_Same.j0 k true ac ai ad ae ah aa ag af aj aq ak al ap ab ao am) = some r := by rw [if_neg (show ¬ (false = true) by decide)] at H; exact H
     clear H
     have H := H1
     clear H1
     have H' := Aside0.mk H
     clear H
     go_wp2
     go_meet
     case rel => exact ⟨_, (true), Qs, H', ⟨by first | omega | exact Nat.le_refl _⟩, ⟨Qb ar.out⟩, ⟨Qb av.out⟩, ⟨Qy HB.out ax.out az.out⟩⟩
   ·replace c13 := Bool.eq_false_iff.mpr c13
    subst c13
    have H1 : (r6_Same.j0 k true ac ai ad ae ah aa ag af aj aq ak al ap ab ao am) = some r := by rw [if_neg (show ¬ (false = true) by decide)] at H; exact H
    clear H
    have H := H1
    clear H1
    have H' := Aside0.mk H
    clear H
    go_wp2
    go_meet
    case rel => exact ⟨_, (true), Qs, H', ⟨by first | omega | exact Nat.le_refl _⟩, ⟨Qb ar.out⟩, ⟨Qb av.out⟩, ⟨Qy HB.out ax.out az.out⟩⟩
  ·replace c12 := Bool.eq_false_iff.mpr c12
   subst c12
   have H1 : (r6_Same.j0 k true ac ai ad ae ah aa ag af aj aq ak al ap ab ao am) = some r := by rw [if_neg (show ¬ (false = true) by decide)] at H; exact H
   clear H
   have H := H1
   clear H1
   have H' := Aside0.mk H
   clear H
   go_wp2
   go_meet
   case rel => exact ⟨_, (true), Qs, H', ⟨by first | omega | exact Nat.le_refl _⟩, ⟨Qb ar.out⟩, ⟨Qb av.out⟩, ⟨Qy HB.out ax.out az.out⟩⟩
 case rest =>
  clear hL
  try clear bK bL bM bN bO bP bQ bR; try clear b0 b1 b2 b3 b4 b5 b6 b7; try clear bS bT bU bV bW bX bY bZ; try clear b8 b9 ca cb cc cd ce cf
  obtain ⟨kq, bf, rfl, HA, HJ5, ar, av, HB⟩ := hcut
  cases kq with
  | zero => exact absurd HA.out (by simp [r6_Same.j0])
  | succ kj5 =>
   have H := HA.out
   clear HA
   simp only [r6_Same.j0] at H
   by_cases c34 : bf = true
   ·subst c34
    have H1 : (some false) = some r := by rw [if_pos rfl] at H; exact H
    clear H
    have H := H1
    clear H1
    obtain rfl := Option.some.inj H
    go_wp2
    go_ret
    exact ⟨Qe, Qy HB.out ax.out az.out⟩
   ·replace c34 := Bool.eq_false_iff.mpr c34
    subst c34
    have H1 : (r6_Same.l0 kj5 0 ac ai ad ae ah aa ag af aj aq ak al ap ab ao am) = some r := by rw [if_neg (show ¬ (false = true) by decide)] at H; exact H
    clear H
    have H := H1
    clear H1
    have H' := Aside0.mk H
    clear H
    go_wp2
    go_loopg [8] kj5 (fun kq v8 w' => ∃ (au : Int), v8 = .int .i64 au ∧ Aside0 (r6_Same.l0 kq au ac ai ad ae ah aa ag af aj aq ak al ap ab ao am = some r) ∧ Aside0 (kq ≤ kj5) ∧ Aside0 (w'.heap[aA]? = some (.cells #[.string ac, (.slice aF ai.length aG), .string ad, .string ae, (.slice aH ah.length aI), (.slice aJ aa.length aK), (.slice aL ag.length aM), .string af] 29 (0, 0))) ∧ Aside0 (w'.heap[aB]? = some (.cells #[.string aj, (.slice bg aq.length bh), .string ak, .string al, (.slice bi ap.length bj), (.slice bk ab.length bm), (.slice bn ao.length bo), .string am] 29 (0, 0))) ∧ Aside0 (Below w.heap.size w w'))
    case atStart => exact ⟨(0), Qs, H', ⟨Nat.le_refl _⟩, ⟨Qb ar.out⟩, ⟨Qb av.out⟩, ⟨Qy HB.out ax.out az.out⟩⟩
    case round =>
     clear H'
     obtain ⟨au, rfl, HA, HK2, ar, av, HB⟩ := hrel
     cases gk with
     | zero => exact absurd HA.out (by simp [r6_Same.l0])
     | succ k2 =>
      have H := HA.out
      clear HA
      simp only [r6_Same.l0] at H
      by_cases c35 : au < (aa.length : Int)
      ·rw [if_pos c35] at H
       have cG : decide (au < (aa.length : Int)) = true := decide_eq_true c35
       clear c35
       by_cases c36 : 0 ≤ au
       ·rw [if_pos c36] at H
        have hY : decide (0 ≤ au) = true := decide_eq_true c36
        clear c36
        by_cases c37 : au < (ab.length : Int)
        ·rw [if_pos c37] at H
         have hZ : decide (au < (ab.length : Int)) = true := decide_eq_true c37
         clear c37
         replace H := Option.bind_eq_some_iff.mp H
         obtain ⟨bJ, cH, H⟩ := H
         replace H : (if bJ = true then (if ((rd_T47 aa au).f0).toList = ((rd_T47 ab au).f0).toList then (r6_Same.l0 k2 (wrap64 (au + 1)) ac ai ad ae ah aa ag af aj aq ak al ap ab ao am) else (some false)) else (some false)) = some r := H
         have hM := Aside0.mk cH
         clear cH
         by_cases c39 : bJ = true
         ·subst c39
          have H1 : (if ((rd_T47 aa au).f0).toList = ((rd_T47 ab au).f0).toList then (r6_Same.l0 k2 (wrap64 (au + 1)) ac ai ad ae ah aa ag af aj aq ak al ap ab ao am) else (some false)) = some r := by rw [if_pos rfl] at H; exact H
          clear H
          have H := H1
          clear H1
          by_cases c40 : ((rd_T47 aa au).f0).toList = ((rd_T47 ab au).f0).toList
          ·rw [if_pos c40] at H
           have cI : (((rd_T47 aa au).f0).toList == ((rd_T47 ab au).f0).toList) = true := beq_iff_eq.mpr c40
           have cJ : (((rd_T47 aa au).f0).toList != ((rd_T47 ab au).f0).toList) = false := bne_eq_false_iff_eq.mpr c40
           clear c40
           have H' := Aside0.mk H
           clear H
           have hnb41 := NB337_338.out
           have hnc41 := NB338_337.out
           obtain ⟨fw, fx, fy, fz, fA, fB, fC, fD, fE, fF, fG, fH, fI, fJ, fK, fL⟩ := c8_10 ar.out
           have p342 : 0 ≤ (au : Int) := of_decide_eq_true Qa
           have q342 : au < (aa.length : Int) := of_decide_eq_true Qa
           obtain ⟨ad342, bD, bE, e342, hx342_0, hx342_1, hl342_1, hi342_1⟩ := at_T47 aS.out au p342 q342
           cases e342
           replace hx342_0 := (HB.out.cell (World.block_lt_of_cell? w _ hx342_0)).trans hx342_0
           replace hx342_1 := (HB.out.cell (World.block_lt_of_cell? w _ hx342_1)).trans hx342_1
           have aN := Aside0.mk hi342_1
           have aO := Aside0.mk hl342_1
           clear hi342_1 hl342_1
           replace p342 := eq_true p342
           replace q342 := eq_true q342
           obtain ⟨fM, fN, fO, fP, fQ, fR, fS, fT, fU, fV, fW, fX, fY, fZ, f2, f3⟩ := c8_10 av.out
           have p343 : 0 ≤ (au : Int) := of_decide_eq_true Qa
           have q343 : au < (ab.length : Int) := of_decide_eq_true Qa
           obtain ⟨ad343, bF, bG, e343, hx343_0, hx343_1, hl343_1, hi343_1⟩ := at_T47 bd.out au p343 q343
           cases e343
           replace hx343_0 := (HB.out.cell (World.block_lt_of_cell? w _ hx343_0)).trans hx343_0
           replace hx343_1 := (HB.out.cell (World.block_lt_of_cell? w _ hx343_1)).trans hx343_1
           have aP := Aside0.mk hi343_1
           have aQ := Aside0.mk hl343_1
           clear hi343_1 hl343_1
           replace p343 := eq_true p343
           replace q343 := eq_true q343
           go_wp2_with (fail)
           repeat (go_quiet (first | (go_at_call 22; (with_reducible refine (r4_Same.calls k2 _ _ ((rd_T47 aa au).f1) _ _ ((rd_T47 ab au).f1) true _ ?side1 ?side2 ?side3 ?side4 hM.out).mono ?_); (case side1 => exact Qc (cB_ aN.out HB.out)); (case side2 => exact aO.out); (case side3 => exact Qc (cB_ aP.out HB.out)); (case side4 => exact aQ.out); rintro e w' ⟨rfl, ⟨nd, rfl⟩⟩; (try exact Qd); have p345 : 0 ≤ (au : Int) := of_decide_eq_true Qa; have q345 : au < (aa.length : Int) := of_decide_eq_true Qa; obtain ⟨ad345, cm, cn, e345, hx345_0, hx345_1, hl345_1, hi345_1⟩ := at_T47 aS.out au p345 q345; obtain rfl : ad342 = ad345 := (by injection e345); replace hx345_0 := (HB.out.cell (World.block_lt_of_cell? w _ hx345_0)).trans hx345_0; replace hx345_1 := (HB.out.cell (World.block_lt_of_cell? w _ hx345_1)).trans hx345_1; have cg := Aside0.mk hi345_1; have ch := Aside0.mk hl345_1; clear hi345_1 hl345_1; replace p345 := eq_true p345; replace q345 := eq_true q345; have ea_ := Option.some.inj (hx342_1.symm.trans hx345_1); injection ea_ with ea_ en_ ec_; subst ea_; subst ec_; clear en_; have p346 : 0 ≤ (au : Int) := of_decide_eq_true Qa; have q346 : au < (ab.length : Int) := of_decide_eq_true Qa; obtain ⟨ad346, co, cp, e346, hx346_0, hx346_1, hl346_1, hi346_1⟩ := at_T47 bd.out au p346 q346; obtain rfl : ad343 = ad346 := (by injection e346); replace hx346_0 := (HB.out.cell (World.block_lt_of_cell? w _ hx346_0)).trans hx346_0; replace hx346_1 := (HB.out.cell (World.block_lt_of_cell? w _ hx346_1)).trans hx346_1; have ci := Aside0.mk hi346_1; have cj := Aside0.mk hl346_1; clear hi346_1 hl346_1; replace p346 := eq_true p346; replace q346 := eq_true q346; have ea_ := Option.some.inj (hx343_1.symm.trans hx346_1); injection ea_ with ea_ en_ ec_; subst ea_; subst ec_; clear en_)); try go_wp2_with (fail))
           go_roundg k2
           case measure => have := HJ5.out; have := HK2.out; omega
           case rel => exact ⟨(wrap64 (au + 1)), Qs, H', ⟨by have := HJ5.out; have := HK2.out; omega⟩, ⟨Qb ar.out⟩, ⟨Qb av.out⟩, ⟨Qy HB.out ax.out az.out⟩⟩
          ·rw [if_neg c40] at H
           have cI : (((rd_T47 aa au).f0).toList == ((rd_T47 ab au).f0).toList) = false := beq_eq_false_iff_ne.mpr c40
           have cJ : (((rd_T47 aa au).f0).toList != ((rd_T47 ab au).f0).toList) = true := bne_iff_ne.mpr c40
           obtain rfl := Option.some.inj H
           have hnb44 := NB337_338.out
           have hnc44 := NB338_337.out
           obtain ⟨f4, f5, f6, f7, f8, f9, ga, gb, gc, ge, gf, gg, gh, gi, gj, gl⟩ := c8_10 ar.out
           have p342 : 0 ≤ (au : Int) := of_decide_eq_true Qa
           have q342 : au < (aa.length : Int) := of_decide_eq_true Qa
           obtain ⟨ad342, bD, bE, e342, hx342_0, hx342_1, hl342_1, hi342_1⟩ := at_T47 aS.out au p342 q342
           cases e342
           replace hx342_0 := (HB.out.cell (World.block_lt_of_cell? w _ hx342_0)).trans hx342_0
           replace hx342_1 := (HB.out.cell (World.block_lt_of_cell? w _ hx342_1)).trans hx342_1
           have aN := Aside0.mk hi342_1
           have aO := Aside0.mk hl342_1
           clear hi342_1 hl342_1
           replace p342 := eq_true p342
           replace q342 := eq_true q342
           obtain ⟨gm, gn, go, gp, gq, gr, gs, gt, gu, gv, gw, gx, gy, gz, gA, gB⟩ := c8_10 av.out
           have p343 : 0 ≤ (au : Int) := of_decide_eq_true Qa
           have q343 : au < (ab.length : Int) := of_decide_eq_true Qa
           obtain ⟨ad343, bF, bG, e343, hx343_0, hx343_1, hl343_1, hi343_1⟩ := at_T47 bd.out au p343 q343
           cases e343
           replace hx343_0 := (HB.out.cell (World.block_lt_of_cell? w _ hx343_0)).trans hx343_0
           replace hx343_1 := (HB.out.cell (World.block_lt_of_cell? w _ hx343_1)).trans hx343_1
           have aP := Aside0.mk hi343_1
           have aQ := Aside0.mk hl343_1
           clear hi343_1 hl343_1
           replace p343 := eq_true p343
           replace q343 := eq_true q343
           go_wp2_with (fail)
           repeat (go_quiet (first | (go_at_call 22; (with_reducible refine (r4_Same.calls k2 _ _ ((rd_T47 aa au).f1) _ _ ((rd_T47 ab au).f1) true _ ?side1 ?side2 ?side3 ?side4 hM.out).mono ?_); (case side1 => exact Qc (cB_ aN.out HB.out)); (case side2 => exact aO.out); (case side3 => exact Qc (cB_ aP.out HB.out)); (case side4 => exact aQ.out); rintro e w' ⟨rfl, ⟨nd, rfl⟩⟩; (try exact Qd); have p345 : 0 ≤ (au : Int) := of_decide_eq_true Qa; have q345 : au < (aa.length : Int) := of_decide_eq_true Qa; obtain ⟨ad345, cm, cn, e345, hx345_0, hx345_1, hl345_1, hi345_1⟩ := at_T47 aS.out au p345 q345; obtain rfl : ad342 = ad345 := (by injection e345); replace hx345_0 := (HB.out.cell (World.block_lt_of_cell? w _ hx345_0)).trans hx345_0; replace hx345_1 := (HB.out.cell (World.block_lt_of_cell? w _ hx345_1)).trans hx345_1; have cg := Aside0.mk hi345_1; have ch := Aside0.mk hl345_1; clear hi345_1 hl345_1; replace p345 := eq_true p345; replace q345 := eq_true q345; have ea_ := Option.some.inj (hx342_1.symm.trans hx345_1); injection ea_ with ea_ en_ ec_; subst ea_; subst ec_; clear en_; have p346 : 0 ≤ (au : Int) := of_decide_eq_true Qa; have q346 : au < (ab.length : Int) := of_decide_eq_true Qa; obtain ⟨ad346, co, cp, e346, hx346_0, hx346_1, hl346_1, hi346_1⟩ := at_T47 bd.out au p346 q346; obtain rfl : ad343 = ad346 := (by injection e346); replace hx346_0 := (HB.out.cell (World.block_lt_of_cell? w _ hx346_0)).trans hx346_0; replace hx346_1 := (HB.out.cell (World.block_lt_of_cell? w _ hx346_1)).trans hx346_1; have ci := Aside0.mk hi346_1; have cj := Aside0.mk hl346_1; clear hi346_1 hl346_1; replace p346 := eq_true p346; replace q346 := eq_true q346; have ea_ := Option.some.inj (hx343_1.symm.trans hx346_1); injection ea_ with ea_ en_ ec_; subst ea_; subst ec_; clear en_)); try go_wp2_with (fail))
           go_ret
           exact ⟨Qe, Qy HB.out ax.out az.out⟩
         ·replace c39 := Bool.eq_false_iff.mpr c39
          subst c39
          have H1 : (some false) = some r := by rw [if_neg (show ¬ (false = true) by decide)] at H; exact H
          clear H
          have H := H1
          clear H1
          obtain rfl := Option.some.inj H
          have hnb47 := NB337_338.out
          have hnc47 := NB338_337.out
          obtain ⟨gC, gD, gE, gF, gG, gH, gI, gJ, gK, gL, gM, gO, gP, gQ, gR, gS⟩ := c8_10 ar.out
          have p342 : 0 ≤ (au : Int) := of_decide_eq_true Qa
          have q342 : au < (aa.length : Int) := of_decide_eq_true Qa
          obtain ⟨ad342, bD, bE, e342, hx342_0, hx342_1, hl342_1, hi342_1⟩ := at_T47 aS.out au p342 q342
          cases e342
          replace hx342_0 := (HB.out.cell (World.block_lt_of_cell? w _ hx342_0)).trans hx342_0
          replace hx342_1 := (HB.out.cell (World.block_lt_of_cell? w _ hx342_1)).trans hx342_1
          have aN := Aside0.mk hi342_1
          have aO := Aside0.mk hl342_1
          clear hi342_1 hl342_1
          replace p342 := eq_true p342
          replace q342 := eq_true q342
          obtain ⟨gT, gU, gV, gW, gX, gY, gZ, g0, g1, g2, g3, g4, g5, g6, g7, g8⟩ := c8_10 av.out
          have p343 : 0 ≤ (au : Int) := of_decide_eq_true Qa
          have q343 : au < (ab.length : Int) := of_decide_eq_true Qa
          obtain ⟨ad343, bF, bG, e343, hx343_0, hx343_1, hl343_1, hi343_1⟩ := at_T47 bd.out au p343 q343
          cases e343
          replace hx343_0 := (HB.out.cell (World.block_lt_of_cell? w _ hx343_0)).trans hx343_0
          replace hx343_1 := (HB.out.cell (World.block_lt_of_cell? w _ hx343_1)).trans hx343_1
          have aP := Aside0.mk hi343_1
          have aQ := Aside0.mk hl343_1
          clear hi343_1 hl343_1
          replace p343 := eq_true p343
          replace q343 := eq_true q343
          go_wp2_with (fail)
          repeat (go_quiet (first | (go_at_call 22; (with_reducible refine (r4_Same.calls k2 _ _ ((rd_T47 aa au).f1) _ _ ((rd_T47 ab au).f1) false _ ?side1 ?side2 ?side3 ?side4 hM.out).mono ?_); (case side1 => exact Qc (cB_ aN.out HB.out)); (case side2 => exact aO.out); (case side3 => exact Qc (cB_ aP.out HB.out)); (case side4 => exact aQ.out); rintro e w' ⟨rfl, ⟨nd, rfl⟩⟩; (try exact Qd))); try go_wp2_with (fail))
          go_ret
          exact ⟨Qe, Qy HB.out ax.out az.out⟩
        ·rw [if_neg c37] at H
         exact absurd H (by simp)
       ·rw [if_neg c36] at H
        exact absurd H (by simp)
      ·rw [if_neg c35] at H
       have cG : decide (au < (aa.length : Int)) = false := decide_eq_false c35
       clear c35
       obtain rfl := Option.some.inj H
       have hnb50 := NB337_338.out
       have hnc50 := NB338_337.out
       obtain ⟨g9, ha, hc, he, hf, hh, hi, hj, hk, hl, hm, hn, ho, hp, hq, hs⟩ := c8_10 ar.out
       go_wp2
       go_ret
       exact ⟨Qe, Qy HB.out ax.out az.out⟩
def w7_short.f (a0 : ByteArray) : Option (ByteArray) := if (a0.size : Int) > 80 then (if 0 ≤ 80 then (if 80 ≤ (a0.size : Int) then (some (a0.extract 0 80)) else (none)) else (none)) else (some a0)
set_option maxHeartbeats 8000000 in
set_option maxRecDepth 100000 in
theorem w7_short.calls (a0 : ByteArray) (r : ByteArray) (w : World) (h : w7_short.f a0 = some r) :
  Calls Tryz.prog 18 #[.string a0] w fun e w' => e = .returned (.string r) ∧ Drawn0 w w' := by
 have H : (if (a0.size : Int) > 80 then (if 0 ≤ 80 then (if 80 ≤ (a0.size : Int) then (some (a0.extract 0 80)) else (none)) else (none)) else (some a0)) = some r := h
 clear h
 by_cases c2 : (a0.size : Int) > 80
 ·rw [if_pos c2] at H
  have hN : decide (80 < (a0.size : Int)) = true := decide_eq_true c2
  have hO : decide (80 < a0.size) = true := decide_eq_true (by omega)
  clear c2
  by_cases c3 : 0 ≤ 80
  ·rw [if_pos c3] at H
   have bH := eq_true c3
   have bI : decide (0 ≤ 80) = true := decide_eq_true c3
   clear c3
   by_cases c4 : 80 ≤ (a0.size : Int)
   ·rw [if_pos c4] at H
    have ct := eq_true c4
    have h2 : decide (80 ≤ (a0.size : Int)) = true := decide_eq_true c4
    clear c4
    obtain rfl := Option.some.inj H
    go_enter Tryz.func18, Tryz.ntmps18
    go_wp2
    go_ret
    exact ⟨Qs, Q0⟩
   ·rw [if_neg c4] at H
    exact absurd H (by simp)
  ·rw [if_neg c3] at H
   exact absurd H (by simp)
 ·rw [if_neg c2] at H
  have hN : decide (80 < (a0.size : Int)) = false := decide_eq_false c2
  have hO : decide (80 < a0.size) = false := decide_eq_false (by omega)
  clear c2
  obtain rfl := Option.some.inj H
  go_enter Tryz.func18, Tryz.ntmps18
  go_wp2
  go_ret
  exact ⟨Qs, Q0⟩
def w7_rest.f (a0 : Int) (a1 : Int) : Option (Int) := if a1 = 0 then (none) else (some (Int.tmod (wrap64 ((Int.tmod a0 a1) + a1)) a1))
set_option maxHeartbeats 8000000 in
set_option maxRecDepth 100000 in
theorem w7_rest.calls (a0 : Int) (a1 : Int) (r : Int) (w : World) (h : w7_rest.f a0 a1 = some r) :
  Calls Tryz.prog 20 #[.int .i64 a0, .int .i64 a1] w fun e w' => e = .returned (.int .i64 r) ∧ Drawn0 w w' := by
 have H : (if a1 = 0 then (none) else (some (Int.tmod (wrap64 ((Int.tmod a0 a1) + a1)) a1))) = some r := h
 clear h
 by_cases c3 : a1 = 0
 ·rw [if_pos c3] at H
  exact absurd H (by simp)
 ·rw [if_neg c3] at H
  have bH : (a1 == 0) = false := beq_eq_false_iff_ne.mpr c3
  have bI : (a1 != 0) = true := bne_iff_ne.mpr c3
  obtain rfl := Option.some.inj H
  go_enter Tryz.func20, Tryz.ntmps20
  go_wp2
  go_ret
  exact ⟨Qs, Q0⟩
end Go.Proofs.YtejnfbfikadpdaaGreatDoor.P
