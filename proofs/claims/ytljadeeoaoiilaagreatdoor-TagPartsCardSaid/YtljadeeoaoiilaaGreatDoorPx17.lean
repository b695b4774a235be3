-- Written for this claim by the session's own run of the print, functions proved by hand put in.
import Derived.Test.YtljadeeoaoiilaaGreatDoorSq
import Derived.Test.YtljadeeoaoiilaaGreatDoorPx0
import Derived.Test.YtljadeeoaoiilaaGreatDoorPx13
import Derived.Test.YtljadeeoaoiilaaGreatDoorPx14
import Derived.Test.YtljadeeoaoiilaaGreatDoorPx15
import Derived.Test.YtljadeeoaoiilaaGreatDoorPx16
namespace Go.Proofs.YtljadeeoaoiilaaGreatDoor.P
open Go.RowKit Go.Proofs.YtljadeeoaoiilaaGreatDoorW.PrintWords Go.Proofs.YtljadeeoaoiilaaGreatDoorW.PrintLast Go.Proofs.YtljadeeoaoiilaaGreatDoorW.PrintMore
open Go.Proofs.YtljadeeoaoiilaaGreatDoorW.PrintWords renaming blk_alloc → bA_, blk_drewN → bN_, blk_drew → bD_, blk_frozen → bF_, blk_cell → bC_, below_alloc → wA_, pw_below_drewN → wN_, below_drew1 → wD_, below_set → wS_, below_size → wZ_, below_step → wT_
open Go.Proofs.YtljadeeoaoiilaaGreatDoorW.PrintWords.Kd renaming C_alloc → cA_, C_drewN → cN_, C_drew → cD_, C_below → cB_
theorem c8_17 {w : World} {g : Nat} {t : TypeId} {x0 x1 x2 x3 x4 x5 x6 x7 : Value} (h : w.heap[g]? = some (.cells #[x0, x1, x2, x3, x4, x5, x6, x7] t (0, 0))) : w.cell? ⟨g, 0, none⟩ = some x0 ∧ w.cell? ⟨g, 1, none⟩ = some x1 ∧ w.cell? ⟨g, 2, none⟩ = some x2 ∧ w.cell? ⟨g, 3, none⟩ = some x3 ∧ w.cell? ⟨g, 4, none⟩ = some x4 ∧ w.cell? ⟨g, 5, none⟩ = some x5 ∧ w.cell? ⟨g, 6, none⟩ = some x6 ∧ w.cell? ⟨g, 7, none⟩ = some x7 ∧ w.frozen? ⟨g, 0, none⟩ = false ∧ w.frozen? ⟨g, 1, none⟩ = false ∧ w.frozen? ⟨g, 2, none⟩ = false ∧ w.frozen? ⟨g, 3, none⟩ = false ∧ w.frozen? ⟨g, 4, none⟩ = false ∧ w.frozen? ⟨g, 5, none⟩ = false ∧ w.frozen? ⟨g, 6, none⟩ = false ∧ w.frozen? ⟨g, 7, none⟩ = false :=
  ⟨(bC_ h 0).trans rfl, (bC_ h 1).trans rfl, (bC_ h 2).trans rfl, (bC_ h 3).trans rfl, (bC_ h 4).trans rfl, (bC_ h 5).trans rfl, (bC_ h 6).trans rfl, (bC_ h 7).trans rfl, bF_ h 0, bF_ h 1, bF_ h 2, bF_ h 3, bF_ h 4, bF_ h 5, bF_ h 6, bF_ h 7⟩
attribute [local go_sem] max2_int min2_int max_two min_two max_three min_three max_four min_four   -- for this text's walks alone
set_option linter.unusedVariables false
set_option linter.unusedSimpArgs false
mutual
def r6_Right.j0 : Nat → Bool → ByteArray → List ByteArray → ByteArray → ByteArray → List ByteArray → List (S40) → List ByteArray → ByteArray → Option (Bool)
 | 0, _, _, _, _, _, _, _, _, _ => none
 | k + 1, x4, ah, ad, ak, al, ao, ap, ai, am => if am.toList = ([] : List UInt8) then (if ah.toList = ([] : List UInt8) then ((r6_subs.f k ai 1).bind fun aZ => (if x4 = true then (if (ai.length : Int) > 0 then (some aZ) else (some false)) else (some false))) else ((r6_Language.f k ah).bind fun aS => (if ak.toList = ([] : List UInt8) then (r6_Right.j1 k aS true ah ad ak al ao ap ai am) else ((r6_Script.f k ak).bind fun bf => (r6_Right.j1 k aS bf ah ad ak al ao ap ai am))))) else (if x4 = true then (if (ai.length : Int) = 0 then ((r5_Find.f k am).bind fun bg => (some (decide (bg ≥ 0)))) else (some false)) else (some false))
def r6_Right.j1 : Nat → Bool → Bool → ByteArray → List ByteArray → ByteArray → ByteArray → List ByteArray → List (S40) → List ByteArray → ByteArray → Option (Bool)
 | 0, _, _, _, _, _, _, _, _, _, _ => none
 | k + 1, x6, x7, ah, ad, ak, al, ao, ap, ai, am => if al.toList = ([] : List UInt8) then (r6_Right.j2 k x6 x7 true ah ad ak al ao ap ai am) else ((r6_Region.f k al).bind fun bh => (r6_Right.j2 k x6 x7 bh ah ad ak al ao ap ai am))
def r6_Right.j2 : Nat → Bool → Bool → Bool → ByteArray → List ByteArray → ByteArray → ByteArray → List ByteArray → List (S40) → List ByteArray → ByteArray → Option (Bool)
 | 0, _, _, _, _, _, _, _, _, _, _, _ => none
 | k + 1, x6, x7, x8, ah, ad, ak, al, ao, ap, ai, am => (r6_rows.f k ah ad ak al ao ap ai am).bind fun bi => (if x6 = true then (if x7 = true then (if x8 = true then (if bi = true then (if (ad.length : Int) > 3 then (r6_Right.j3 k true ah ad ak al ao ap ai am) else (if (ad.length : Int) > 0 then (r6_Right.j3 k (decide ((ah.size : Int) > 3)) ah ad ak al ao ap ai am) else (r6_Right.j3 k false ah ad ak al ao ap ai am))) else (r6_Right.j3 k true ah ad ak al ao ap ai am)) else (r6_Right.j3 k true ah ad ak al ao ap ai am)) else (r6_Right.j3 k true ah ad ak al ao ap ai am)) else (r6_Right.j3 k true ah ad ak al ao ap ai am))
def r6_Right.j3 : Nat → Bool → ByteArray → List ByteArray → ByteArray → ByteArray → List ByteArray → List (S40) → List ByteArray → ByteArray → Option (Bool)
 | 0, _, _, _, _, _, _, _, _, _ => none
 | k + 1, x131, ah, ad, ak, al, ao, ap, ai, am => if x131 = true then (some false) else (r6_Right.l0 k 0 ah ad ak al ao ap ai am)
def r6_Right.l0 : Nat → Int → ByteArray → List ByteArray → ByteArray → ByteArray → List ByteArray → List (S40) → List ByteArray → ByteArray → Option (Bool)
 | 0, _, _, _, _, _, _, _, _, _ => none
 | k + 1, x10, ah, ad, ak, al, ao, ap, ai, am => if x10 < (ad.length : Int) then (if 0 ≤ x10 then ((r6_Extlang.f k (rdOf ByteArray.empty ad x10)).bind fun bX => (if bX = true then (r6_Right.l0 k (wrap64 (x10 + 1)) ah ad ak al ao ap ai am) else (some false))) else (none)) else ((r6_Subtags.f k ah ad ak al ao ap ai am).bind fun a0 => ((r4_Join.f k a0).bind fun a1 => ((r5_Find.f k a1).bind fun bj => (some (decide (bj < 0))))))
end
def r6_Right.f (k : Nat) (ac : ByteArray) (ab : List ByteArray) (ae : ByteArray) (af : ByteArray) (ar : List ByteArray) (av : List (S40)) (ag : List ByteArray) (au : ByteArray) : Option (Bool) := (r6_small.f k ac ab ae af ar av ag au).bind fun bY => (if bY = true then (if ac.toList = ([] : List UInt8) then (if (ab.length : Int) = 0 then (if ae.toList = ([] : List UInt8) then (if af.toList = ([] : List UInt8) then (if (ar.length : Int) = 0 then (r6_Right.j0 k ((av.length : Int) == 0) ac ab ae af ar av ag au) else (r6_Right.j0 k false ac ab ae af ar av ag au)) else (r6_Right.j0 k false ac ab ae af ar av ag au)) else (r6_Right.j0 k false ac ab ae af ar av ag au)) else (r6_Right.j0 k false ac ab ae af ar av ag au)) else (r6_Right.j0 k false ac ab ae af ar av ag au)) else (some false))
set_option maxHeartbeats 8000000 in
set_option maxRecDepth 100000 in
theorem r6_Right.calls (k : Nat) (ac : ByteArray) (az : Option Addr) (aA : Nat) (ab : List ByteArray) (ae : ByteArray) (af : ByteArray) (aB : Option Addr) (aC : Nat) (ar : List ByteArray) (aD : Option Addr) (aE : Nat) (av : List (S40)) (ax : Option Addr) (ay : Nat) (ag : List ByteArray) (au : ByteArray) (r : Bool) (w : World) (hr0_1 : Kd.C Kd.string w az ab.length ab) (hc0_1 : ab.length ≤ aA) (hr0_4 : Kd.C Kd.string w aB ar.length ar) (hc0_4 : ar.length ≤ aC) (hr0_5 : Kd.C k40 w aD av.length av) (hc0_5 : av.length ≤ aE) (hr0_6 : Kd.C Kd.string w ax ag.length ag) (hc0_6 : ag.length ≤ ay) (h : r6_Right.f k ac ab ae af ar av ag au = some r) :
  Calls Tryz.prog 9 #[.agg #[.string ac, .slice az ab.length aA, .string ae, .string af, .slice aB ar.length aC, .slice aD av.length aE, .slice ax ag.length ay, .string au]] w fun e w' => e = .returned (.bool r) ∧ Below w.heap.size w w' := by
 have hu25 := Tryz.underlying25
 have aK := Aside0.mk hr0_1
 have aT := Aside0.mk hc0_1
 clear hr0_1 hc0_1
 have aU := Aside0.mk hr0_4
 have aV := Aside0.mk hc0_4
 clear hr0_4 hc0_4
 have aW := Aside0.mk hr0_5
 have aX := Aside0.mk hc0_5
 clear hr0_5 hc0_5
 have aG := Aside0.mk hr0_6
 have aH := Aside0.mk hc0_6
 clear hr0_6 hc0_6
 have HB := Aside0.mk (Below.refl w.heap.size w)
 have H := h; unfold r6_Right.f at H
 clear h
 replace H := Option.bind_eq_some_iff.mp H
 obtain ⟨bY, i7, H⟩ := H
 try dsimp only at H
 have A2 := Aside0.mk i7
 clear i7
 by_cases c3 : bY = true
 ·subst c3
  rw [if_pos rfl] at H
  have i3 := Aside0.mk H
  clear H
  go_enter Tryz.func9, Tryz.ntmps9
  go_upto_region 4 with (first | ((with_reducible refine gate_dst (N := 1) rfl ?_); (try (refine gate_guard (by rfl) ?_; dsimp only)); refine box_event ?hg (N := 1) ?hd (cs := #[.string ac, .slice az ab.length aA, .string ae, .string af, .slice aB ar.length aC, .slice aD av.length aE, .slice ax ag.length ay, .string au]) (t := 25) ?hr ?_; (case hd => rfl); (case hg => rfl); (case hr => first | (go_simp; done) | (go_simp; rfl)); intro aq hg w5 hbox hb; have aI := Aside0.mk (wT_ (Qw HB.out) hb); have aJ := Aside0.mk (hbox); have a2 := Aside0.mk ((by rw [hg]; exact (wZ_ (Qw HB.out)) : w.heap.size ≤ aq)); have ck := Aside0.mk ((by rw [hg]; exact (wZ_ (Qw HB.out)) : w.heap.size ≤ aq)); clear HB; have HB := aI; have aa := aJ; have GW375 := a2; have aj := ck; clear aI aJ a2 ck; clear hb hbox hg; have bZ : w5.cell? ⟨aq, 0, none⟩ = some (.string ac) := (bC_ aa.out 0).trans rfl; have b0 : w5.cell? ⟨aq, 1, none⟩ = some (.slice az ab.length aA) := (bC_ aa.out 1).trans rfl; have b1 : w5.cell? ⟨aq, 2, none⟩ = some (.string ae) := (bC_ aa.out 2).trans rfl; have b2 : w5.cell? ⟨aq, 3, none⟩ = some (.string af) := (bC_ aa.out 3).trans rfl; have b3 : w5.cell? ⟨aq, 4, none⟩ = some (.slice aB ar.length aC) := (bC_ aa.out 4).trans rfl; have b4 : w5.cell? ⟨aq, 5, none⟩ = some (.slice aD av.length aE) := (bC_ aa.out 5).trans rfl; have b5 : w5.cell? ⟨aq, 6, none⟩ = some (.slice ax ag.length ay) := (bC_ aa.out 6).trans rfl; have b6 : w5.cell? ⟨aq, 7, none⟩ = some (.string au) := (bC_ aa.out 7).trans rfl; have b7 := bF_ aa.out 0; have b8 := bF_ aa.out 1; have b9 := bF_ aa.out 2; have ca := bF_ aa.out 3; have cb := bF_ aa.out 4; have cc := bF_ aa.out 5; have cd := bF_ aa.out 6; have ce := bF_ aa.out 7) | ((with_reducible refine gate_callee (f := 34) rfl ?_); refine goesL_ (some 13) rfl rfl Tryz.func34 (by kernel_rfl) rfl #[.agg #[.string ac, .slice az ab.length aA, .string ae, .string af, .slice aB ar.length aC, .slice aD av.length aE, .slice ax ag.length ay, .string au]] rfl Qm ?_; (with_reducible refine (r6_small.calls k ac _ _ ab ae af _ _ ar _ _ av _ _ ag au true _ ?side1 ?side2 ?side3 ?side4 ?side5 ?side6 ?side7 ?side8 A2.out).mono ?_); (case side1 => exact Qc (cB_ aK.out HB.out)); (case side2 => exact aT.out); (case side3 => exact Qc (cB_ aU.out HB.out)); (case side4 => exact aV.out); (case side5 => exact Qc (cB_ aW.out HB.out)); (case side6 => exact aX.out); (case side7 => exact Qc (cB_ aG.out HB.out)); (case side8 => exact aH.out); rintro e w7 ⟨rfl, hb⟩; refine ⟨_, rfl, ?_⟩; have aI := Aside0.mk (blk_below (g := aq) (o := .cells #[.string ac, .slice az ab.length aA, .string ae, .string af, .slice aB ar.length aC, .slice aD av.length aE, .slice ax ag.length ay, .string au] 25 (0, 0)) (Qb aa.out) hb); have aJ := Aside0.mk (wT_ (Qv HB.out aj.out) hb); clear aa; clear HB; have aa := aI; have HB := aJ; clear aI aJ; (try clear hb); (try clear hk)))
  (try simp only [Act.put, List.setIfInBounds_toArray, List.set_cons_zero, List.set_cons_succ])
  go_cut [4] (fun v4 wc => ∃ (kq : Nat) (a3 : Bool), v4 = .bool a3 ∧ Aside0 (r6_Right.j0 kq a3 ac ab ae af ar av ag au = some r) ∧ Aside0 (kq ≤ k) ∧ Aside0 (wc.heap[aq]? = some (.cells #[.string ac, (.slice az ab.length aA), .string ae, .string af, (.slice aB ar.length aC), (.slice aD av.length aE), (.slice ax ag.length ay), .string au] 25 (0, 0))) ∧ Aside0 (Below w.heap.size w wc))
  case first =>
   have H := i3.out
   clear i3
   by_cases c8 : ac.toList = ([] : List UInt8)
   ·rw [if_pos c8] at H
    have a4 : (ac.toList == ([] : List UInt8)) = true := beq_iff_eq.mpr c8
    have a5 : ac.toList.isEmpty = true := List.isEmpty_iff.2 c8
    have cf : (!ac.toList.isEmpty) = false := by rw [a5]; rfl
    have cg : (ac.toList != ([] : List UInt8)) = false := bne_eq_false_iff_eq.mpr c8
    clear c8
    (first | rw [cf] | rw [a5] | rw [a4] | rw [cg] | (simp only [i64_w, i32_w]; rw [a4]) | skip)
    by_cases c9 : (ab.length : Int) = 0
    ·rw [if_pos c9] at H
     have i4 : ((ab.length : Int) == 0) = true := beq_iff_eq.mpr c9
     have i5 : ((ab.length : Int) != 0) = false := bne_eq_false_iff_eq.mpr c9
     clear c9
     by_cases c10 : ae.toList = ([] : List UInt8)
     ·rw [if_pos c10] at H
      have cl : (ae.toList == ([] : List UInt8)) = true := beq_iff_eq.mpr c10
      have a6 : ae.toList.isEmpty = true := List.isEmpty_iff.2 c10
      have cm : (!ae.toList.isEmpty) = false := by rw [a6]; rfl
      have cn : (ae.toList != ([] : List UInt8)) = false := bne_eq_false_iff_eq.mpr c10
      clear c10
      by_cases c11 : af.toList = ([] : List UInt8)
      ·rw [if_pos c11] at H
       have co : (af.toList == ([] : List UInt8)) = true := beq_iff_eq.mpr c11
       have a7 : af.toList.isEmpty = true := List.isEmpty_iff.2 c11
       have cp : (!af.toList.isEmpty) = false := by rw [a7]; rfl
       have cq : (af.toList != ([] : List UInt8)) = false := bne_eq_false_iff_eq.mpr c11
       clear c11
       by_cases c12 : (ar.length : Int) = 0
       ·rw [if_pos c12] at H
        have cr : ((ar.length : Int) == 0) = true := beq_iff_eq.mpr c12
        have ct : ((ar.length : Int) != 0) = false := bne_eq_false_iff_eq.mpr c12
        clear c12
        have H' := Aside0.mk H
        clear H
        obtain ⟨cN, cO, cP, cQ, cR, cS, cT, cU, cV, cW, cX, cY, cZ, c0, c1, da⟩ := c8_17 aa.out
        go_wp2
        go_meet
        case rel => exact ⟨_, (((av.length : Int) == 0)), Qs, H', ⟨by first | omega | exact Nat.le_refl _⟩, ⟨Qb aa.out⟩, ⟨Qv HB.out aj.out⟩⟩
       ·rw [if_neg c12] at H
        have cr : ((ar.length : Int) == 0) = false := beq_eq_false_iff_ne.mpr c12
        have ct : ((ar.length : Int) != 0) = true := bne_iff_ne.mpr c12
        have i8 : ¬ (ar = []) := fun h_ => c12 (by rw [h_]; rfl)
        have H' := Aside0.mk H
        clear H
        obtain ⟨db, dc, dd, de, df, dg, dh, di, dj, dk, dl, dm, dn, dp, dq, dr⟩ := c8_17 aa.out
        go_wp2
        go_meet
        case rel => exact ⟨_, (false), Qs, H', ⟨by first | omega | exact Nat.le_refl _⟩, ⟨Qb aa.out⟩, ⟨Qv HB.out aj.out⟩⟩
      ·rw [if_neg c11] at H
       have co : (af.toList == ([] : List UInt8)) = false := beq_eq_false_iff_ne.mpr c11
       have a7 : af.toList.isEmpty = false := List.isEmpty_eq_false_iff.2 c11
       have cp : (!af.toList.isEmpty) = true := by rw [a7]; rfl
       have cq : (af.toList != ([] : List UInt8)) = true := bne_iff_ne.mpr c11
       have H' := Aside0.mk H
       clear H
       obtain ⟨ds, dt, du, dv, dw, dx, dy, dz, dA, dB, dC, dD, dE, dF, dG, dH⟩ := c8_17 aa.out
       go_wp2
       go_meet
       case rel => exact ⟨_, (false), Qs, H', ⟨by first | omega | exact Nat.le_refl _⟩, ⟨Qb aa.out⟩, ⟨Qv HB.out aj.out⟩⟩
     ·rw [if_neg c10] at H
      have cl : (ae.toList == ([] : List UInt8)) = false := beq_eq_false_iff_ne.mpr c10
      have a6 : ae.toList.isEmpty = false := List.isEmpty_eq_false_iff.2 c10
      have cm : (!ae.toList.isEmpty) = true := by rw [a6]; rfl
      have cn : (ae.toList != ([] : List UInt8)) = true := bne_iff_ne.mpr c10
      have H' := Aside0.mk H
      clear H
      obtain ⟨dI, dJ, dK, dL, dM, dN, dO, dP, dQ, dR, dS, dT, dU, dV, dW, dX⟩ := c8_17 aa.out
      go_wp2
      go_meet
      case rel => exact ⟨_, (false), Qs, H', ⟨by first | omega | exact Nat.le_refl _⟩, ⟨Qb aa.out⟩, ⟨Qv HB.out aj.out⟩⟩
    ·rw [if_neg c9] at H
     have i4 : ((ab.length : Int) == 0) = false := beq_eq_false_iff_ne.mpr c9
     have i5 : ((ab.length : Int) != 0) = true := bne_iff_ne.mpr c9
     have jc : ¬ (ab = []) := fun h_ => c9 (by rw [h_]; rfl)
     have H' := Aside0.mk H
     clear H
     obtain ⟨dY, dZ, d0, d1, d2, d3, d4, d5, d6, d7, d8, d9, ea, eb, ec, ed⟩ := c8_17 aa.out
     go_wp2
     go_meet
     case rel => exact ⟨_, (false), Qs, H', ⟨by first | omega | exact Nat.le_refl _⟩, ⟨Qb aa.out⟩, ⟨Qv HB.out aj.out⟩⟩
   ·rw [if_neg c8] at H
    have a4 : (ac.toList == ([] : List UInt8)) = false := beq_eq_false_iff_ne.mpr c8
    have a5 : ac.toList.isEmpty = false := List.isEmpty_eq_false_iff.2 c8
    have cf : (!ac.toList.isEmpty) = true := by rw [a5]; rfl
    have cg : (ac.toList != ([] : List UInt8)) = true := bne_iff_ne.mpr c8
    (first | rw [cf] | rw [a5] | rw [a4] | rw [cg] | (simp only [i64_w, i32_w]; rw [a4]) | skip)
    have H' := Aside0.mk H
    clear H
    obtain ⟨ee, ef, eg, eh, ei, ej, ek, el, em, en, eo, ep, eq, er, es, et⟩ := c8_17 aa.out
    go_wp2
    go_meet
    case rel => exact ⟨_, (false), Qs, H', ⟨by first | omega | exact Nat.le_refl _⟩, ⟨Qb aa.out⟩, ⟨Qv HB.out aj.out⟩⟩
  case rest =>
   clear i3
   try clear bZ b0 b1 b2 b3 b4 b5 b6; try clear b7 b8 b9 ca cb cc cd ce
   obtain ⟨kq, a3, rfl, HA, HJ3, aa, HB⟩ := hcut
   cases kq with
   | zero => exact absurd HA.out (by simp [r6_Right.j0])
   | succ kj3 =>
    have H := HA.out
    clear HA
    simp only [r6_Right.j0] at H
    by_cases c19 : au.toList = ([] : List UInt8)
    ·rw [if_pos c19] at H
     have bT : (au.toList == ([] : List UInt8)) = true := beq_iff_eq.mpr c19
     have a8 : au.toList.isEmpty = true := List.isEmpty_iff.2 c19
     have cu : (!au.toList.isEmpty) = false := by rw [a8]; rfl
     have bU : (au.toList != ([] : List UInt8)) = false := bne_eq_false_iff_eq.mpr c19
     clear c19
     by_cases c20 : ac.toList = ([] : List UInt8)
     ·rw [if_pos c20] at H
      have bV : (ac.toList == ([] : List UInt8)) = true := beq_iff_eq.mpr c20
      have a9 : ac.toList.isEmpty = true := List.isEmpty_iff.2 c20
      have cv : (!ac.toList.isEmpty) = false := by rw [a9]; rfl
      have bW : (ac.toList != ([] : List UInt8)) = false := bne_eq_false_iff_eq.mpr c20
      clear c20
      replace H := Option.bind_eq_some_iff.mp H
      obtain ⟨aZ, cw, H⟩ := H
      try dsimp only at H
      have i6 := Aside0.mk cw
      clear cw
      by_cases c22 : a3 = true
      ·subst c22
       rw [if_pos rfl] at H
       by_cases c23 : (ag.length : Int) > 0
       ·rw [if_pos c23] at H
        have cx : decide (0 < (ag.length : Int)) = true := decide_eq_true c23
        have cy : decide (0 < ag.length) = true := decide_eq_true (by omega)
        clear c23
        obtain rfl := Option.some.inj H
        obtain ⟨eu, ev, ew, ex, ey, ez, eA, eB, eC, eD, eE, eF, eG, eH, eI, eJ⟩ := c8_17 aa.out
        go_wp2_with (first | ((with_reducible refine gate_callee (f := 36) rfl ?_); refine goesL_ (some 68) rfl rfl Tryz.func36 (by kernel_rfl) rfl #[.slice ax ag.length ay, .int .i64 1] rfl Qm ?_; (with_reducible refine (r6_subs.calls kj3 _ _ ag 1 aZ _ ?side1 ?side2 i6.out).mono ?_); (case side1 => exact Qc (cB_ aG.out HB.out)); (case side2 => exact aH.out); rintro e w' ⟨rfl, ⟨nd, rfl⟩⟩; refine ⟨_, rfl, ?_⟩))
        go_ret
        exact ⟨Qe, Qv HB.out aj.out⟩
       ·rw [if_neg c23] at H
        have cx : decide (0 < (ag.length : Int)) = false := decide_eq_false c23
        have cy : decide (0 < ag.length) = false := decide_eq_false (by omega)
        clear c23
        obtain rfl := Option.some.inj H
        obtain ⟨eK, eL, eM, eN, eO, eP, eQ, eR, eS, eT, eU, eV, eW, eX, eY, eZ⟩ := c8_17 aa.out
        go_wp2_with (first | ((with_reducible refine gate_callee (f := 36) rfl ?_); refine goesL_ (some 68) rfl rfl Tryz.func36 (by kernel_rfl) rfl #[.slice ax ag.length ay, .int .i64 1] rfl Qm ?_; (with_reducible refine (r6_subs.calls kj3 _ _ ag 1 aZ _ ?side1 ?side2 i6.out).mono ?_); (case side1 => exact Qc (cB_ aG.out HB.out)); (case side2 => exact aH.out); rintro e w' ⟨rfl, ⟨nd, rfl⟩⟩; refine ⟨_, rfl, ?_⟩))
        go_ret
        exact ⟨Qe, Qv HB.out aj.out⟩
      ·replace c22 := Bool.eq_false_iff.mpr c22
       subst c22
       rw [if_neg (show ¬ (false = true) by decide)] at H
       obtain rfl := Option.some.inj H
       obtain ⟨e0, e1, e2, e3, e4, e5, e6, e7, e8, e9, fa, fb, fc, fd, fe, ff⟩ := c8_17 aa.out
       go_wp2_with (first | ((with_reducible refine gate_callee (f := 36) rfl ?_); refine goesL_ (some 68) rfl rfl Tryz.func36 (by kernel_rfl) rfl #[.slice ax ag.length ay, .int .i64 1] rfl Qm ?_; (with_reducible refine (r6_subs.calls kj3 _ _ ag 1 aZ _ ?side1 ?side2 i6.out).mono ?_); (case side1 => exact Qc (cB_ aG.out HB.out)); (case side2 => exact aH.out); rintro e w' ⟨rfl, ⟨nd, rfl⟩⟩; refine ⟨_, rfl, ?_⟩))
       go_ret
       exact ⟨Qe, Qv HB.out aj.out⟩
     ·rw [if_neg c20] at H
      have bV : (ac.toList == ([] : List UInt8)) = false := beq_eq_false_iff_ne.mpr c20
      have a9 : ac.toList.isEmpty = false := List.isEmpty_eq_false_iff.2 c20
      have cv : (!ac.toList.isEmpty) = true := by rw [a9]; rfl
      have bW : (ac.toList != ([] : List UInt8)) = true := bne_iff_ne.mpr c20
      replace H := Option.bind_eq_some_iff.mp H
      obtain ⟨aS, cz, H⟩ := H
      try dsimp only at H
      have jd := Aside0.mk cz
      clear cz
      have ch := Aside0.mk H
      clear H
      obtain ⟨bk, bm, bn, bo, bp, bq, br, bs, bu, bv, bw, bx, bz, bA, bB, bC⟩ := c8_17 aa.out
      go_upto_region 11 with (first | ((with_reducible refine gate_callee (f := 37) rfl ?_); refine goesL_ (some 81) rfl rfl Tryz.func37 (by kernel_rfl) rfl #[.string ac] rfl Qm ?_; (with_reducible refine (r6_Language.calls kj3 ac aS _ jd.out).mono ?_); rintro e w' ⟨rfl, ⟨nd, rfl⟩⟩; refine ⟨_, rfl, ?_⟩))
      (try simp only [Act.put, List.setIfInBounds_toArray, List.set_cons_zero, List.set_cons_succ])
      go_cut [7] (fun v7 wc => ∃ (kq : Nat) (aM : Bool), v7 = .bool aM ∧ Aside0 (r6_Right.j1 kq aS aM ac ab ae af ar av ag au = some r) ∧ Aside0 (kq ≤ kj3) ∧ Aside0 (wc.heap[aq]? = some (.cells #[.string ac, (.slice az ab.length aA), .string ae, .string af, (.slice aB ar.length aC), (.slice aD av.length aE), (.slice ax ag.length ay), .string au] 25 (0, 0))) ∧ Aside0 (Below w.heap.size w wc))
      case first =>
       have H := ch.out
       clear ch
       by_cases c30 : ae.toList = ([] : List UInt8)
       ·rw [if_pos c30] at H
        have aN : (ae.toList == ([] : List UInt8)) = true := beq_iff_eq.mpr c30
        have aO : ae.toList.isEmpty = true := List.isEmpty_iff.2 c30
        have ba : (!ae.toList.isEmpty) = false := by rw [aO]; rfl
        have bb : (ae.toList != ([] : List UInt8)) = false := bne_eq_false_iff_eq.mpr c30
        clear c30
        (first | rw [ba] | rw [aO] | rw [aN] | rw [bb] | (simp only [i64_w, i32_w]; rw [aN]) | skip)
        have H' := Aside0.mk H
        clear H
        obtain ⟨fg, fh, fi, fj, fk, fl, fm, fn, fo, fp, fq, fr, fs, ft, fu, fv⟩ := c8_17 aa.out
        go_wp2
        go_meet
        case rel => exact ⟨_, (true), Qs, H', ⟨by have := HJ3.out; first | omega | exact Nat.le_refl _⟩, ⟨Qb aa.out⟩, ⟨Qv HB.out aj.out⟩⟩
       ·rw [if_neg c30] at H
        have aN : (ae.toList == ([] : List UInt8)) = false := beq_eq_false_iff_ne.mpr c30
        have aO : ae.toList.isEmpty = false := List.isEmpty_eq_false_iff.2 c30
        have ba : (!ae.toList.isEmpty) = true := by rw [aO]; rfl
        have bb : (ae.toList != ([] : List UInt8)) = true := bne_iff_ne.mpr c30
        (first | rw [ba] | rw [aO] | rw [aN] | rw [bb] | (simp only [i64_w, i32_w]; rw [aN]) | skip)
        replace H := Option.bind_eq_some_iff.mp H
        obtain ⟨bf, cA, H⟩ := H
        try dsimp only at H
        have je := Aside0.mk cA
        clear cA
        have H' := Aside0.mk H
        clear H
        obtain ⟨fw, fx, fy, fz, fA, fB, fC, fD, fE, fF, fG, fH, fI, fJ, fK, fL⟩ := c8_17 aa.out
        go_wp2_with (first | (go_at_call 38; (with_reducible refine (r6_Script.calls kj3 ae bf _ je.out).mono ?_); rintro e w' ⟨rfl, ⟨nd, rfl⟩⟩))
        go_meet
        case rel => exact ⟨_, (bf), Qs, H', ⟨by have := HJ3.out; first | omega | exact Nat.le_refl _⟩, ⟨Qb aa.out⟩, ⟨Qv HB.out aj.out⟩⟩
      case rest =>
       clear ch
       try clear bT; try clear bU; try clear c20; try clear bV; try clear bW
       try clear bk bm bn bo bp bq br bs; try clear bu bv bw bx bz bA bB bC
       obtain ⟨kq, aM, rfl, HA, HJ27, aa, HB⟩ := hcut
       cases kq with
       | zero => exact absurd HA.out (by simp [r6_Right.j1])
       | succ kj27 =>
        have H := HA.out
        clear HA
        simp only [r6_Right.j1] at H
        have ci := Aside0.mk H
        clear H
        go_upto_region 12 with (fail)
        go_cut [8] (fun v8 wc => ∃ (kq : Nat) (aY : Bool), v8 = .bool aY ∧ Aside0 (r6_Right.j2 kq aS aM aY ac ab ae af ar av ag au = some r) ∧ Aside0 (kq ≤ kj27) ∧ Aside0 (wc.heap[aq]? = some (.cells #[.string ac, (.slice az ab.length aA), .string ae, .string af, (.slice aB ar.length aC), (.slice aD av.length aE), (.slice ax ag.length ay), .string au] 25 (0, 0))) ∧ Aside0 (Below w.heap.size w wc))
        case first =>
         have H := ci.out
         clear ci
         by_cases c35 : af.toList = ([] : List UInt8)
         ·rw [if_pos c35] at H
          have aP : (af.toList == ([] : List UInt8)) = true := beq_iff_eq.mpr c35
          have aQ : af.toList.isEmpty = true := List.isEmpty_iff.2 c35
          have bc : (!af.toList.isEmpty) = false := by rw [aQ]; rfl
          have bd : (af.toList != ([] : List UInt8)) = false := bne_eq_false_iff_eq.mpr c35
          clear c35
          (first | rw [bc] | rw [aQ] | rw [aP] | rw [bd] | (simp only [i64_w, i32_w]; rw [aP]) | skip)
          have H' := Aside0.mk H
          clear H
          obtain ⟨fM, fN, fO, fP, fQ, fR, fS, fT, fU, fV, fW, fX, fY, fZ, f0, f1⟩ := c8_17 aa.out
          go_wp2
          go_meet
          case rel => exact ⟨_, (true), Qs, H', ⟨by have := HJ3.out; have := HJ27.out; first | omega | exact Nat.le_refl _⟩, ⟨Qb aa.out⟩, ⟨Qv HB.out aj.out⟩⟩
         ·rw [if_neg c35] at H
          have aP : (af.toList == ([] : List UInt8)) = false := beq_eq_false_iff_ne.mpr c35
          have aQ : af.toList.isEmpty = false := List.isEmpty_eq_false_iff.2 c35
          have bc : (!af.toList.isEmpty) = true := by rw [aQ]; rfl
          have bd : (af.toList != ([] : List UInt8)) = true := bne_iff_ne.mpr c35
          (first | rw [bc] | rw [aQ] | rw [aP] | rw [bd] | (simp only [i64_w, i32_w]; rw [aP]) | skip)
          replace H := Option.bind_eq_some_iff.mp H
          obtain ⟨bh, cB, H⟩ := H
          try dsimp only at H
          have jf := Aside0.mk cB
          clear cB
          have H' := Aside0.mk H
          clear H
          obtain ⟨f2, f3, f4, f5, f6, f7, f8, f9, ga, gb, gc, ge, gf, gg, gh, gi⟩ := c8_17 aa.out
          go_wp2_with (first | (go_at_call 39; (with_reducible refine (r6_Region.calls kj27 af bh _ jf.out).mono ?_); rintro e w' ⟨rfl, ⟨nd, rfl⟩⟩))
          go_meet
          case rel => exact ⟨_, (bh), Qs, H', ⟨by have := HJ3.out; have := HJ27.out; first | omega | exact Nat.le_refl _⟩, ⟨Qb aa.out⟩, ⟨Qv HB.out aj.out⟩⟩
        case rest =>
         clear ci
         obtain ⟨kq, aY, rfl, HA, HJ33, aa, HB⟩ := hcut
         cases kq with
         | zero => exact absurd HA.out (by simp [r6_Right.j2])
         | succ kj33 =>
          have H := HA.out
          clear HA
          simp only [r6_Right.j2] at H
          replace H := Option.bind_eq_some_iff.mp H
          obtain ⟨bi, cC, H⟩ := H
          try dsimp only at H
          have jg := Aside0.mk cC
          clear cC
          have cj := Aside0.mk H
          clear H
          obtain ⟨bD, bE, bF, bG, bH, bI, bJ, bK, bL, bM, bN, bO, bP, bQ, bR, bS⟩ := c8_17 aa.out
          go_upto_region 14 with (first | ((with_reducible refine gate_callee (f := 40) rfl ?_); refine goesL_ (some 99) rfl rfl Tryz.func40 (by kernel_rfl) rfl #[.agg #[.string ac, .slice az ab.length aA, .string ae, .string af, .slice aB ar.length aC, .slice aD av.length aE, .slice ax ag.length ay, .string au]] rfl Qm ?_; (with_reducible refine (r6_rows.calls kj33 ac _ _ ab ae af _ _ ar _ _ av _ _ ag au bi _ ?side1 ?side2 ?side3 ?side4 ?side5 ?side6 ?side7 ?side8 jg.out).mono ?_); (case side1 => exact Qc (cB_ aK.out HB.out)); (case side2 => exact aT.out); (case side3 => exact Qc (cB_ aU.out HB.out)); (case side4 => exact aV.out); (case side5 => exact Qc (cB_ aW.out HB.out)); (case side6 => exact aX.out); (case side7 => exact Qc (cB_ aG.out HB.out)); (case side8 => exact aH.out); rintro e w42 ⟨rfl, hb⟩; refine ⟨_, rfl, ?_⟩; have aI := Aside0.mk (blk_below (g := aq) (o := .cells #[.string ac, .slice az ab.length aA, .string ae, .string af, .slice aB ar.length aC, .slice aD av.length aE, .slice ax ag.length ay, .string au] 25 (0, 0)) (Qb aa.out) hb); have aJ := Aside0.mk (wT_ (Qv HB.out aj.out) hb); clear aa; clear HB; have aa := aI; have HB := aJ; clear aI aJ; (try clear hb); (try clear hk)))
          (try simp only [Act.put, List.setIfInBounds_toArray, List.set_cons_zero, List.set_cons_succ])
          go_cut [131] (fun v131 wc => ∃ (kq : Nat) (aF : Bool), v131 = .bool aF ∧ Aside0 (r6_Right.j3 kq aF ac ab ae af ar av ag au = some r) ∧ Aside0 (kq ≤ kj33) ∧ Aside0 (wc.heap[aq]? = some (.cells #[.string ac, (.slice az ab.length aA), .string ae, .string af, (.slice aB ar.length aC), (.slice aD av.length aE), (.slice ax ag.length ay), .string au] 25 (0, 0))) ∧ Aside0 (Below w.heap.size w wc))
          case first =>
           have H := cj.out
           clear cj
           by_cases c43 : aS = true
           ·subst c43
            rw [if_pos rfl] at H
            by_cases c44 : aM = true
            ·subst c44
             rw [if_pos rfl] at H
             by_cases c45 : aY = true
             ·subst c45
              rw [if_pos rfl] at H
              by_cases c46 : bi = true
              ·subst c46
               rw [if_pos rfl] at H
               by_cases c47 : (ab.length : Int) > 3
               ·rw [if_pos c47] at H
                have aR : decide (3 < (ab.length : Int)) = true := decide_eq_true c47
                have be : decide (3 < ab.length) = true := decide_eq_true (by omega)
                clear c47
                (first | rw [aR] | rw [be] | (simp only [i64_w, i32_w]; rw [aR]) | skip)
                have H' := Aside0.mk H
                clear H
                obtain ⟨gj, gl, gm, gn, go, gp, gq, gr, gs, gt, gu, gv, gw, gx, gy, gz⟩ := c8_17 aa.out
                go_wp2
                go_meet
                case rel => exact ⟨_, (true), Qs, H', ⟨by have := HJ3.out; have := HJ27.out; have := HJ33.out; first | omega | exact Nat.le_refl _⟩, ⟨Qb aa.out⟩, ⟨Qv HB.out aj.out⟩⟩
               ·rw [if_neg c47] at H
                have aR : decide (3 < (ab.length : Int)) = false := decide_eq_false c47
                have be : decide (3 < ab.length) = false := decide_eq_false (by omega)
                clear c47
                (first | rw [aR] | rw [be] | (simp only [i64_w, i32_w]; rw [aR]) | skip)
                by_cases c49 : (ab.length : Int) > 0
                ·rw [if_pos c49] at H
                 have cD : decide (0 < (ab.length : Int)) = true := decide_eq_true c49
                 have cE : decide (0 < ab.length) = true := decide_eq_true (by omega)
                 clear c49
                 have H' := Aside0.mk H
                 clear H
                 obtain ⟨gA, gB, gC, gD, gE, gF, gG, gH, gI, gJ, gK, gL, gM, gO, gP, gQ⟩ := c8_17 aa.out
                 go_wp2
                 go_meet
                 case rel => exact ⟨_, (decide ((ac.size : Int) > 3)), Qs, H', ⟨by have := HJ3.out; have := HJ27.out; have := HJ33.out; first | omega | exact Nat.le_refl _⟩, ⟨Qb aa.out⟩, ⟨Qv HB.out aj.out⟩⟩
                ·rw [if_neg c49] at H
                 have cD : decide (0 < (ab.length : Int)) = false := decide_eq_false c49
                 have cE : decide (0 < ab.length) = false := decide_eq_false (by omega)
                 clear c49
                 have H' := Aside0.mk H
                 clear H
                 obtain ⟨gR, gS, gT, gU, gV, gW, gX, gY, gZ, g0, g1, g2, g3, g4, g5, g6⟩ := c8_17 aa.out
                 go_wp2
                 go_meet
                 case rel => exact ⟨_, (false), Qs, H', ⟨by have := HJ3.out; have := HJ27.out; have := HJ33.out; first | omega | exact Nat.le_refl _⟩, ⟨Qb aa.out⟩, ⟨Qv HB.out aj.out⟩⟩
              ·replace c46 := Bool.eq_false_iff.mpr c46
               subst c46
               rw [if_neg (show ¬ (false = true) by decide)] at H
               have H' := Aside0.mk H
               clear H
               go_wp2
               go_meet
               case rel => exact ⟨_, (true), Qs, H', ⟨by have := HJ3.out; have := HJ27.out; have := HJ33.out; first | omega | exact Nat.le_refl _⟩, ⟨Qb aa.out⟩, ⟨Qv HB.out aj.out⟩⟩
             ·replace c45 := Bool.eq_false_iff.mpr c45
              subst c45
              rw [if_neg (show ¬ (false = true) by decide)] at H
              have H' := Aside0.mk H
              clear H
              go_wp2
              go_meet
              case rel => exact ⟨_, (true), Qs, H', ⟨by have := HJ3.out; have := HJ27.out; have := HJ33.out; first | omega | exact Nat.le_refl _⟩, ⟨Qb aa.out⟩, ⟨Qv HB.out aj.out⟩⟩
            ·replace c44 := Bool.eq_false_iff.mpr c44
             subst c44
             rw [if_neg (show ¬ (false = true) by decide)] at H
             have H' := Aside0.mk H
             clear H
             go_wp2
             go_meet
             case rel => exact ⟨_, (true), Qs, H', ⟨by have := HJ3.out; have := HJ27.out; have := HJ33.out; first | omega | exact Nat.le_refl _⟩, ⟨Qb aa.out⟩, ⟨Qv HB.out aj.out⟩⟩
           ·replace c43 := Bool.eq_false_iff.mpr c43
            subst c43
            rw [if_neg (show ¬ (false = true) by decide)] at H
            have H' := Aside0.mk H
            clear H
            go_wp2
            go_meet
            case rel => exact ⟨_, (true), Qs, H', ⟨by have := HJ3.out; have := HJ27.out; have := HJ33.out; first | omega | exact Nat.le_refl _⟩, ⟨Qb aa.out⟩, ⟨Qv HB.out aj.out⟩⟩
          case rest =>
           clear cj
           try clear bD bE bF bG bH bI bJ bK; try clear bL bM bN bO bP bQ bR bS
           obtain ⟨kq, aF, rfl, HA, HJ39, aa, HB⟩ := hcut
           cases kq with
           | zero => exact absurd HA.out (by simp [r6_Right.j3])
           | succ kj39 =>
            have H := HA.out
            clear HA
            simp only [r6_Right.j3] at H
            by_cases c52 : aF = true
            ·subst c52
             rw [if_pos rfl] at H
             obtain rfl := Option.some.inj H
             go_wp2
             go_ret
             exact ⟨Qe, Qv HB.out aj.out⟩
            ·replace c52 := Bool.eq_false_iff.mpr c52
             subst c52
             rw [if_neg (show ¬ (false = true) by decide)] at H
             have H' := Aside0.mk H
             clear H
             go_wp2
             go_loopg [10] kj39 (fun kq v10 w' => ∃ (aw : Int), v10 = .int .i64 aw ∧ Aside0 (r6_Right.l0 kq aw ac ab ae af ar av ag au = some r) ∧ Aside0 (kq ≤ kj39) ∧ Aside0 (w'.heap[aq]? = some (.cells #[.string ac, (.slice az ab.length aA), .string ae, .string af, (.slice aB ar.length aC), (.slice aD av.length aE), (.slice ax ag.length ay), .string au] 25 (0, 0))) ∧ Aside0 (Below w.heap.size w w'))
             case atStart => exact ⟨(0), Qs, H', ⟨Nat.le_refl _⟩, ⟨Qb aa.out⟩, ⟨Qv HB.out aj.out⟩⟩
             case round =>
              clear H'
              obtain ⟨aw, rfl, HA, HK5, aa, HB⟩ := hrel
              cases gk with
              | zero => exact absurd HA.out (by simp [r6_Right.l0])
              | succ k5 =>
               have H := HA.out
               clear HA
               simp only [r6_Right.l0] at H
               by_cases c53 : aw < (ab.length : Int)
               ·rw [if_pos c53] at H
                have cF : decide (aw < (ab.length : Int)) = true := decide_eq_true c53
                clear c53
                by_cases c54 : 0 ≤ aw
                ·rw [if_pos c54] at H
                 have i9 : decide (0 ≤ aw) = true := decide_eq_true c54
                 clear c54
                 replace H := Option.bind_eq_some_iff.mp H
                 obtain ⟨bX, cG, H⟩ := H
                 try dsimp only at H
                 have ja := Aside0.mk cG
                 clear cG
                 by_cases c56 : bX = true
                 ·subst c56
                  rw [if_pos rfl] at H
                  have H' := Aside0.mk H
                  clear H
                  obtain ⟨g7, g8, g9, ha, hc, he, hf, hh, hi, hj, hl, hm, hn, ho, hp, hq⟩ := c8_17 aa.out
                  have p383 : 0 ≤ (aw : Int) := of_decide_eq_true Qa
                  have q383 : aw < (ab.length : Int) := of_decide_eq_true Qa
                  obtain ⟨ad383, e383, hx383_0⟩ := Kd.at_string aK.out aw p383 q383
                  cases e383
                  replace hx383_0 := (HB.out.cell (World.block_lt_of_cell? w _ hx383_0)).trans hx383_0
                  replace p383 := eq_true p383
                  replace q383 := eq_true q383
                  go_wp2_with (first | ((with_reducible refine gate_callee (f := 41) rfl ?_); refine goesL_ (some 144) rfl rfl Tryz.func41 (by kernel_rfl) rfl #[.string (rdOf ByteArray.empty ab aw)] rfl Qm ?_; (with_reducible refine (r6_Extlang.calls k5 (rdOf ByteArray.empty ab aw) true _ ja.out).mono ?_); rintro e w' ⟨rfl, ⟨nd, rfl⟩⟩; refine ⟨_, rfl, ?_⟩))
                  go_roundg k5
                  case measure => have := HJ3.out; have := HJ27.out; have := HJ33.out; have := HJ39.out; have := HK5.out; omega
                  case rel => exact ⟨(wrap64 (aw + 1)), Qs, H', ⟨by have := HJ3.out; have := HJ27.out; have := HJ33.out; have := HJ39.out; have := HK5.out; omega⟩, ⟨Qb aa.out⟩, ⟨Qv HB.out aj.out⟩⟩
                 ·replace c56 := Bool.eq_false_iff.mpr c56
                  subst c56
                  rw [if_neg (show ¬ (false = true) by decide)] at H
                  obtain rfl := Option.some.inj H
                  obtain ⟨hs, ht, hu, hv, hw, hx, hy, hz, hA, hB, hC, hD, hE, hF, hG, hH⟩ := c8_17 aa.out
                  have p383 : 0 ≤ (aw : Int) := of_decide_eq_true Qa
                  have q383 : aw < (ab.length : Int) := of_decide_eq_true Qa
                  obtain ⟨ad383, e383, hx383_0⟩ := Kd.at_string aK.out aw p383 q383
                  cases e383
                  replace hx383_0 := (HB.out.cell (World.block_lt_of_cell? w _ hx383_0)).trans hx383_0
                  replace p383 := eq_true p383
                  replace q383 := eq_true q383
                  go_wp2_with (first | ((with_reducible refine gate_callee (f := 41) rfl ?_); refine goesL_ (some 144) rfl rfl Tryz.func41 (by kernel_rfl) rfl #[.string (rdOf ByteArray.empty ab aw)] rfl Qm ?_; (with_reducible refine (r6_Extlang.calls k5 (rdOf ByteArray.empty ab aw) false _ ja.out).mono ?_); rintro e w' ⟨rfl, ⟨nd, rfl⟩⟩; refine ⟨_, rfl, ?_⟩))
                  go_ret
                  exact ⟨Qe, Qv HB.out aj.out⟩
                ·rw [if_neg c54] at H
                 exact absurd H (by simp)
               ·rw [if_neg c53] at H
                have cF : decide (aw < (ab.length : Int)) = false := decide_eq_false c53
                clear c53
                replace H := Option.bind_eq_some_iff.mp H
                obtain ⟨a0, cH, H⟩ := H
                try dsimp only at H
                have jh := Aside0.mk cH
                clear cH
                replace H := Option.bind_eq_some_iff.mp H
                obtain ⟨a1, cI, H⟩ := H
                try dsimp only at H
                have ji := Aside0.mk cI
                clear cI
                replace H := Option.bind_eq_some_iff.mp H
                obtain ⟨bj, cJ, H⟩ := H
                replace H : (some (decide (bj < 0))) = some r := H
                have jj := Aside0.mk cJ
                clear cJ
                obtain rfl := Option.some.inj H
                obtain ⟨hI, hJ, hK, hL, hM, hN, hO, hP, hQ, hR, hS, hT, hU, hV, hW, hX⟩ := c8_17 aa.out
                go_wp2_with (first | ((with_reducible refine gate_callee (f := 43) rfl ?_); refine goesL_ (some 148) rfl rfl Tryz.func43 (by kernel_rfl) rfl #[.agg #[.string ac, .slice az ab.length aA, .string ae, .string af, .slice aB ar.length aC, .slice aD av.length aE, .slice ax ag.length ay, .string au]] rfl Qm ?_; (with_reducible refine (r6_Subtags.calls k5 ac _ _ ab ae af _ _ ar _ _ av _ _ ag au a0 _ ?side1 ?side2 ?side3 ?side4 ?side5 ?side6 ?side7 ?side8 jh.out).mono ?_); (case side1 => exact Qc (cB_ aK.out HB.out)); (case side2 => exact aT.out); (case side3 => exact Qc (cB_ aU.out HB.out)); (case side4 => exact aV.out); (case side5 => exact Qc (cB_ aW.out HB.out)); (case side6 => exact aX.out); (case side7 => exact Qc (cB_ aG.out HB.out)); (case side8 => exact aH.out); rintro e w63 ⟨v386, rfl, ho0, hb⟩; refine ⟨_, rfl, ?_⟩; have aI := Aside0.mk (Kd.R_lower ho0 (wZ_ (Qv HB.out aj.out))); have aJ := Aside0.mk (blk_below (g := aq) (o := .cells #[.string ac, .slice az ab.length aA, .string ae, .string af, .slice aB ar.length aC, .slice aD av.length aE, .slice ax ag.length ay, .string au] 25 (0, 0)) (Qb aa.out) hb); have a2 := Aside0.mk (wT_ (Qv HB.out aj.out) hb); clear aa; clear HB; have aL := aI; have aa := aJ; have HB := a2; clear aI aJ a2; (try clear hb); (try clear ho0); obtain ⟨Ao64, co64, eo64⟩ := Kd.R_slice aL.out; subst eo64) | ((with_reducible refine gate_callee (f := 42) rfl ?_); refine goesL_ (some 149) rfl rfl Tryz.func42 (by kernel_rfl) rfl #[.slice Ao64 a0.length co64] rfl Qm ?_; (with_reducible refine (r4_Join.calls k5 _ _ a0 a1 _ ?side1 ?side2 ji.out).mono ?_); (case side1 => repeat (first | exact (Kd.R_reads' aL.out).2.2 | (with_reducible refine cA_ ?_ _) | (with_reducible refine cN_ ?_ _) | (with_reducible refine cD_ ?_))); (case side2 => exact (Kd.R_reads' aL.out).2.1); rintro e w' ⟨rfl, ⟨nd, rfl⟩⟩; refine ⟨_, rfl, ?_⟩) | ((with_reducible refine gate_callee (f := 35) rfl ?_); refine goesL_ (some 150) rfl rfl Tryz.func35 (by kernel_rfl) rfl #[.string a1] rfl Qm ?_; (with_reducible refine (r5_Find.calls k5 a1 bj _ jj.out).mono ?_); rintro e w65 ⟨rfl, hb⟩; refine ⟨_, rfl, ?_⟩; have aI := Aside0.mk (Kd.R_below (Qr aL.out) hb); have aJ := Aside0.mk (blk_below (g := aq) (o := .cells #[.string ac, .slice az ab.length aA, .string ae, .string af, .slice aB ar.length aC, .slice aD av.length aE, .slice ax ag.length ay, .string au] 25 (0, 0)) (Qb aa.out) hb); have a2 := Aside0.mk (wT_ (Qv HB.out aj.out) hb); clear aL; clear aa; clear HB; have aL := aI; have aa := aJ; have HB := a2; clear aI aJ a2; (try clear hb); (try clear hk)))
                go_ret
                exact ⟨Qe, Qv HB.out aj.out⟩
    ·rw [if_neg c19] at H
     have bT : (au.toList == ([] : List UInt8)) = false := beq_eq_false_iff_ne.mpr c19
     have a8 : au.toList.isEmpty = false := List.isEmpty_eq_false_iff.2 c19
     have cu : (!au.toList.isEmpty) = true := by rw [a8]; rfl
     have bU : (au.toList != ([] : List UInt8)) = true := bne_iff_ne.mpr c19
     by_cases c66 : a3 = true
     ·subst c66
      rw [if_pos rfl] at H
      by_cases c67 : (ag.length : Int) = 0
      ·rw [if_pos c67] at H
       have cK : ((ag.length : Int) == 0) = true := beq_iff_eq.mpr c67
       have cL : ((ag.length : Int) != 0) = false := bne_eq_false_iff_eq.mpr c67
       clear c67
       replace H := Option.bind_eq_some_iff.mp H
       obtain ⟨bg, cM, H⟩ := H
       replace H : (some (decide (bg ≥ 0))) = some r := H
       have jk := Aside0.mk cM
       clear cM
       obtain rfl := Option.some.inj H
       obtain ⟨hY, hZ, h0, h1, h2, h3, h4, h5, h6, h7, h8, h9, ia, ib, ic, id⟩ := c8_17 aa.out
       go_wp2_with (first | (go_at_call 35; (with_reducible refine (r5_Find.calls kj3 au bg _ jk.out).mono ?_); rintro e w70 ⟨rfl, hb⟩; have aI := Aside0.mk (blk_below (g := aq) (o := .cells #[.string ac, .slice az ab.length aA, .string ae, .string af, .slice aB ar.length aC, .slice aD av.length aE, .slice ax ag.length ay, .string au] 25 (0, 0)) (Qb aa.out) hb); have aJ := Aside0.mk (wT_ (Qv HB.out aj.out) hb); clear aa; clear HB; have aa := aI; have HB := aJ; clear aI aJ; (try clear hb); (try clear hk)))
       go_ret
       exact ⟨Qe, Qv HB.out aj.out⟩
      ·rw [if_neg c67] at H
       have cK : ((ag.length : Int) == 0) = false := beq_eq_false_iff_ne.mpr c67
       have cL : ((ag.length : Int) != 0) = true := bne_iff_ne.mpr c67
       have jb : ¬ (ag = []) := fun h_ => c67 (by rw [h_]; rfl)
       obtain rfl := Option.some.inj H
       obtain ⟨ie, ig, ih, ii, ij, ik, il, im, io, ip, iq, ir, it, iu, iv, iw⟩ := c8_17 aa.out
       go_wp2
       go_ret
       exact ⟨Qe, Qv HB.out aj.out⟩
     ·replace c66 := Bool.eq_false_iff.mpr c66
      subst c66
      rw [if_neg (show ¬ (false = true) by decide)] at H
      obtain rfl := Option.some.inj H
      obtain ⟨ix, iy, iz, iA, iB, iC, iD, iE, iF, iG, iH, iI, iJ, iK, iL, iM⟩ := c8_17 aa.out
      go_wp2
      go_ret
      exact ⟨Qe, Qv HB.out aj.out⟩
 ·replace c3 := Bool.eq_false_iff.mpr c3
  subst c3
  rw [if_neg (show ¬ (false = true) by decide)] at H
  obtain rfl := Option.some.inj H
  go_enter Tryz.func9, Tryz.ntmps9
  go_wp2_with (first | ((with_reducible refine gate_dst (N := 1) rfl ?_); (try (refine gate_guard (by rfl) ?_; dsimp only)); refine box_event ?hg (N := 1) ?hd (cs := #[.string ac, .slice az ab.length aA, .string ae, .string af, .slice aB ar.length aC, .slice aD av.length aE, .slice ax ag.length ay, .string au]) (t := 25) ?hr ?_; (case hd => rfl); (case hg => rfl); (case hr => first | (go_simp; done) | (go_simp; rfl)); intro aq hg w73 hbox hb; have aI := Aside0.mk (wT_ (Qw HB.out) hb); have aJ := Aside0.mk (hbox); have a2 := Aside0.mk ((by rw [hg]; exact (wZ_ (Qw HB.out)) : w.heap.size ≤ aq)); have ck := Aside0.mk ((by rw [hg]; exact (wZ_ (Qw HB.out)) : w.heap.size ≤ aq)); clear HB; have HB := aI; have aa := aJ; have GW375 := a2; have aj := ck; clear aI aJ a2 ck; clear hb hbox hg; have iN : w73.cell? ⟨aq, 0, none⟩ = some (.string ac) := (bC_ aa.out 0).trans rfl; have iO : w73.cell? ⟨aq, 1, none⟩ = some (.slice az ab.length aA) := (bC_ aa.out 1).trans rfl; have iP : w73.cell? ⟨aq, 2, none⟩ = some (.string ae) := (bC_ aa.out 2).trans rfl; have iQ : w73.cell? ⟨aq, 3, none⟩ = some (.string af) := (bC_ aa.out 3).trans rfl; have iR : w73.cell? ⟨aq, 4, none⟩ = some (.slice aB ar.length aC) := (bC_ aa.out 4).trans rfl; have iS : w73.cell? ⟨aq, 5, none⟩ = some (.slice aD av.length aE) := (bC_ aa.out 5).trans rfl; have iT : w73.cell? ⟨aq, 6, none⟩ = some (.slice ax ag.length ay) := (bC_ aa.out 6).trans rfl; have iU : w73.cell? ⟨aq, 7, none⟩ = some (.string au) := (bC_ aa.out 7).trans rfl; have iV := bF_ aa.out 0; have iW := bF_ aa.out 1; have iX := bF_ aa.out 2; have iY := bF_ aa.out 3; have iZ := bF_ aa.out 4; have i0 := bF_ aa.out 5; have i1 := bF_ aa.out 6; have i2 := bF_ aa.out 7) | ((with_reducible refine gate_callee (f := 34) rfl ?_); refine goesL_ (some 13) rfl rfl Tryz.func34 (by kernel_rfl) rfl #[.agg #[.string ac, .slice az ab.length aA, .string ae, .string af, .slice aB ar.length aC, .slice aD av.length aE, .slice ax ag.length ay, .string au]] rfl Qm ?_; (with_reducible refine (r6_small.calls k ac _ _ ab ae af _ _ ar _ _ av _ _ ag au false _ ?side1 ?side2 ?side3 ?side4 ?side5 ?side6 ?side7 ?side8 A2.out).mono ?_); (case side1 => exact Qc (cB_ aK.out HB.out)); (case side2 => exact aT.out); (case side3 => exact Qc (cB_ aU.out HB.out)); (case side4 => exact aV.out); (case side5 => exact Qc (cB_ aW.out HB.out)); (case side6 => exact aX.out); (case side7 => exact Qc (cB_ aG.out HB.out)); (case side8 => exact aH.out); rintro e w75 ⟨rfl, hb⟩; refine ⟨_, rfl, ?_⟩; have aI := Aside0.mk (blk_below (g := aq) (o := .cells #[.string ac, .slice az ab.length aA, .string ae, .string af, .slice aB ar.length aC, .slice aD av.length aE, .slice ax ag.length ay, .string au] 25 (0, 0)) (Qb aa.out) hb); have aJ := Aside0.mk (wT_ (Qv HB.out aj.out) hb); clear aa; clear HB; have aa := aI; have HB := aJ; clear aI aJ; (try clear hb); (try clear hk)))
  go_ret
  exact ⟨Qe, Qv HB.out aj.out⟩
end Go.Proofs.YtljadeeoaoiilaaGreatDoor.P
