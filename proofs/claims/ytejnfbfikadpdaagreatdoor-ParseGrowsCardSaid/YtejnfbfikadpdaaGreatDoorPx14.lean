-- Written for this claim by the session's own run of the print, functions proved by hand put in.
import Derived.Test.YtejnfbfikadpdaaGreatDoorSq
import Derived.Test.YtejnfbfikadpdaaGreatDoorPx0
import Derived.Test.YtejnfbfikadpdaaGreatDoorPx8
import Derived.Test.YtejnfbfikadpdaaGreatDoorPx9
import Derived.Test.YtejnfbfikadpdaaGreatDoorPx11
import Derived.Test.YtejnfbfikadpdaaGreatDoorPx12
import Derived.Test.YtejnfbfikadpdaaGreatDoorPx13
namespace Go.Proofs.YtejnfbfikadpdaaGreatDoor.P
open Go.RowKit Go.Proofs.YtejnfbfikadpdaaGreatDoorW.PrintWords Go.Proofs.YtejnfbfikadpdaaGreatDoorW.PrintLast Go.Proofs.YtejnfbfikadpdaaGreatDoorW.PrintMore
open Go.Proofs.YtejnfbfikadpdaaGreatDoorW.PrintWords renaming blk_alloc → bA_, blk_drewN → bN_, blk_drew → bD_, blk_frozen → bF_, blk_cell → bC_, below_alloc → wA_, pw_below_drewN → wN_, below_drew1 → wD_, below_set → wS_, below_size → wZ_, below_step → wT_
open Go.Proofs.YtejnfbfikadpdaaGreatDoorW.PrintWords.Kd renaming C_alloc → cA_, C_drewN → cN_, C_drew → cD_, C_below → cB_
theorem c8_14 {w : World} {g : Nat} {t : TypeId} {x0 x1 x2 x3 x4 x5 x6 x7 : Value} (h : w.heap[g]? = some (.cells #[x0, x1, x2, x3, x4, x5, x6, x7] t (0, 0))) : w.cell? ⟨g, 0, none⟩ = some x0 ∧ w.cell? ⟨g, 1, none⟩ = some x1 ∧ w.cell? ⟨g, 2, none⟩ = some x2 ∧ w.cell? ⟨g, 3, none⟩ = some x3 ∧ w.cell? ⟨g, 4, none⟩ = some x4 ∧ w.cell? ⟨g, 5, none⟩ = some x5 ∧ w.cell? ⟨g, 6, none⟩ = some x6 ∧ w.cell? ⟨g, 7, none⟩ = some x7 ∧ w.frozen? ⟨g, 0, none⟩ = false ∧ w.frozen? ⟨g, 1, none⟩ = false ∧ w.frozen? ⟨g, 2, none⟩ = false ∧ w.frozen? ⟨g, 3, none⟩ = false ∧ w.frozen? ⟨g, 4, none⟩ = false ∧ w.frozen? ⟨g, 5, none⟩ = false ∧ w.frozen? ⟨g, 6, none⟩ = false ∧ w.frozen? ⟨g, 7, none⟩ = false :=
  ⟨(bC_ h 0).trans rfl, (bC_ h 1).trans rfl, (bC_ h 2).trans rfl, (bC_ h 3).trans rfl, (bC_ h 4).trans rfl, (bC_ h 5).trans rfl, (bC_ h 6).trans rfl, (bC_ h 7).trans rfl, bF_ h 0, bF_ h 1, bF_ h 2, bF_ h 3, bF_ h 4, bF_ h 5, bF_ h 6, bF_ h 7⟩
attribute [local go_sem] max2_int min2_int max_two min_two max_three min_three max_four min_four   -- for this text's walks alone
set_option linter.unusedVariables false
set_option linter.unusedSimpArgs false
mutual
def r6_Right.j0 : Nat → Bool → ByteArray → List ByteArray → ByteArray → ByteArray → List ByteArray → List (S47) → List ByteArray → ByteArray → Option (Bool)
 | 0, _, _, _, _, _, _, _, _, _ => none
 | k + 1, x4, ak, aj, ao, ap, ar, au, al, aq => if aq.toList = ([] : List UInt8) then (if ak.toList = ([] : List UInt8) then ((r6_subs.f k al 1).bind fun aX => (if x4 = true then (if (al.length : Int) > 0 then (some aX) else (some false)) else (some false))) else ((r6_Language.f k ak).bind fun aG => (if ao.toList = ([] : List UInt8) then (r6_Right.j1 k aG true ak aj ao ap ar au al aq) else ((r6_Script.f k ao).bind fun aY => (r6_Right.j1 k aG aY ak aj ao ap ar au al aq))))) else (if x4 = true then (if (al.length : Int) = 0 then ((r5_Find.f k aq).bind fun a4 => (some (decide (a4 ≥ 0)))) else (some false)) else (some false))
def r6_Right.j1 : Nat → Bool → Bool → ByteArray → List ByteArray → ByteArray → ByteArray → List ByteArray → List (S47) → List ByteArray → ByteArray → Option (Bool)
 | 0, _, _, _, _, _, _, _, _, _, _ => none
 | k + 1, x6, x7, ak, aj, ao, ap, ar, au, al, aq => if ap.toList = ([] : List UInt8) then (r6_Right.j2 k x6 x7 true ak aj ao ap ar au al aq) else ((r6_Region.f k ap).bind fun a8 => (r6_Right.j2 k x6 x7 a8 ak aj ao ap ar au al aq))
def r6_Right.j2 : Nat → Bool → Bool → Bool → ByteArray → List ByteArray → ByteArray → ByteArray → List ByteArray → List (S47) → List ByteArray → ByteArray → Option (Bool)
 | 0, _, _, _, _, _, _, _, _, _, _, _ => none
 | k + 1, x6, x7, x8, ak, aj, ao, ap, ar, au, al, aq => (r6_rows.f k ak aj ao ap ar au al aq).bind fun aP => (if x6 = true then (if x7 = true then (if x8 = true then (if aP = true then (if (aj.length : Int) > 3 then (r6_Right.j3 k true ak aj ao ap ar au al aq) else (if (aj.length : Int) > 0 then (r6_Right.j3 k (decide ((ak.size : Int) > 3)) ak aj ao ap ar au al aq) else (r6_Right.j3 k false ak aj ao ap ar au al aq))) else (r6_Right.j3 k true ak aj ao ap ar au al aq)) else (r6_Right.j3 k true ak aj ao ap ar au al aq)) else (r6_Right.j3 k true ak aj ao ap ar au al aq)) else (r6_Right.j3 k true ak aj ao ap ar au al aq))
def r6_Right.j3 : Nat → Bool → ByteArray → List ByteArray → ByteArray → ByteArray → List ByteArray → List (S47) → List ByteArray → ByteArray → Option (Bool)
 | 0, _, _, _, _, _, _, _, _, _ => none
 | k + 1, x131, ak, aj, ao, ap, ar, au, al, aq => if x131 = true then (some false) else (r6_Right.l0 k 0 ak aj ao ap ar au al aq)
def r6_Right.l0 : Nat → Int → ByteArray → List ByteArray → ByteArray → ByteArray → List ByteArray → List (S47) → List ByteArray → ByteArray → Option (Bool)
 | 0, _, _, _, _, _, _, _, _, _ => none
 | k + 1, x10, ak, aj, ao, ap, ar, au, al, aq => if x10 < (aj.length : Int) then (if 0 ≤ x10 then ((r6_Extlang.f k (rdOf ByteArray.empty aj x10)).bind fun bm => (if bm = true then (r6_Right.l0 k (wrap64 (x10 + 1)) ak aj ao ap ar au al aq) else (some false))) else (none)) else ((r6_Subtags.f k ak aj ao ap ar au al aq).bind fun a5 => ((r4_Join.f k a5).bind fun aQ => ((r5_Find.f k aQ).bind fun aR => (some (decide (aR < 0))))))
end
def r6_Right.f (k : Nat) (ac : ByteArray) (ab : List ByteArray) (ad : ByteArray) (ae : ByteArray) (ag : List ByteArray) (ai : List (S47)) (af : List ByteArray) (ah : ByteArray) : Option (Bool) := (r6_small.f k ac ab ad ae ag ai af ah).bind fun a6 => (if a6 = true then (if ac.toList = ([] : List UInt8) then (if (ab.length : Int) = 0 then (if ad.toList = ([] : List UInt8) then (if ae.toList = ([] : List UInt8) then (if (ag.length : Int) = 0 then (r6_Right.j0 k ((ai.length : Int) == 0) ac ab ad ae ag ai af ah) else (r6_Right.j0 k false ac ab ad ae ag ai af ah)) else (r6_Right.j0 k false ac ab ad ae ag ai af ah)) else (r6_Right.j0 k false ac ab ad ae ag ai af ah)) else (r6_Right.j0 k false ac ab ad ae ag ai af ah)) else (r6_Right.j0 k false ac ab ad ae ag ai af ah)) else (some false))
set_option maxHeartbeats 8000000 in
set_option maxRecDepth 100000 in
theorem r6_Right.calls (k : Nat) (ac : ByteArray) (az : Option Addr) (aA : Nat) (ab : List ByteArray) (ad : ByteArray) (ae : ByteArray) (aB : Option Addr) (aC : Nat) (ag : List ByteArray) (aD : Option Addr) (aE : Nat) (ai : List (S47)) (ax : Option Addr) (ay : Nat) (af : List ByteArray) (ah : ByteArray) (r : Bool) (w : World) (hr0_1 : Kd.C Kd.string w az ab.length ab) (hc0_1 : ab.length ≤ aA) (hr0_4 : Kd.C Kd.string w aB ag.length ag) (hc0_4 : ag.length ≤ aC) (hr0_5 : Kd.C k47 w aD ai.length ai) (hc0_5 : ai.length ≤ aE) (hr0_6 : Kd.C Kd.string w ax af.length af) (hc0_6 : af.length ≤ ay) (h : r6_Right.f k ac ab ad ae ag ai af ah = some r) :
  Calls Tryz.prog 15 #[.agg #[.string ac, .slice az ab.length aA, .string ad, .string ae, .slice aB ag.length aC, .slice aD ai.length aE, .slice ax af.length ay, .string ah]] w fun e w' => e = .returned (.bool r) ∧ Below w.heap.size w w' := by
 have hu29 := Tryz.underlying29
 have aN := Aside0.mk hr0_1
 have aZ := Aside0.mk hc0_1
 clear hr0_1 hc0_1
 have a0 := Aside0.mk hr0_4
 have a1 := Aside0.mk hc0_4
 clear hr0_4 hc0_4
 have a2 := Aside0.mk hr0_5
 have a3 := Aside0.mk hc0_5
 clear hr0_5 hc0_5
 have aI := Aside0.mk hr0_6
 have aJ := Aside0.mk hc0_6
 clear hr0_6 hc0_6
 have HB := Aside0.mk (Below.refl w.heap.size w)
 have H : ((r6_small.f k ac ab ad ae ag ai af ah).bind fun a6 => (if a6 = true then (if ac.toList = ([] : List UInt8) then (if (ab.length : Int) = 0 then (if ad.toList = ([] : List UInt8) then (if ae.toList = ([] : List UInt8) then (if (ag.length : Int) = 0 then (r6_Right.j0 k ((ai.length : Int) == 0) ac ab ad ae ag ai af ah) else (r6_Right.j0 k false ac ab ad ae ag ai af ah)) else (r6_Right.j0 k false ac ab ad ae ag ai af ah)) else (r6_Right.j0 k false ac ab ad ae ag ai af ah)) else (r6_Right.j0 k false ac ab ad ae ag ai af ah)) else (r6_Right.j0 k false ac ab ad ae ag ai af ah)) else (some false))) = some r := h
 clear h
 replace H := Option.bind_eq_some_iff.mp H
 obtain ⟨a6, i8, H⟩ := H
 replace H : (if a6 = true then (if ac.toList = ([] : List UInt8) then (if (ab.length : Int) = 0 then (if ad.toList = ([] : List UInt8) then (if ae.toList = ([] : List UInt8) then (if (ag.length : Int) = 0 then (r6_Right.j0 k ((ai.length : Int) == 0) ac ab ad ae ag ai af ah) else (r6_Right.j0 k false ac ab ad ae ag ai af ah)) else (r6_Right.j0 k false ac ab ad ae ag ai af ah)) else (r6_Right.j0 k false ac ab ad ae ag ai af ah)) else (r6_Right.j0 k false ac ab ad ae ag ai af ah)) else (r6_Right.j0 k false ac ab ad ae ag ai af ah)) else (some false)) = some r := H
 have A2 := Aside0.mk i8
 clear i8
 by_cases c3 : a6 = true
 ·subst c3
  have H1 : (if ac.toList = ([] : List UInt8) then (if (ab.length : Int) = 0 then (if ad.toList = ([] : List UInt8) then (if ae.toList = ([] : List UInt8) then (if (ag.length : Int) = 0 then (r6_Right.j0 k ((ai.length : Int) == 0) ac ab ad ae ag ai af ah) else (r6_Right.j0 k false ac ab ad ae ag ai af ah)) else (r6_Right.j0 k false ac ab ad ae ag ai af ah)) else (r6_Right.j0 k false ac ab ad ae ag ai af ah)) else (r6_Right.j0 k false ac ab ad ae ag ai af ah)) else (r6_Right.j0 k false ac ab ad ae ag ai af ah)) = some r := by rw [if_pos rfl] at H; exact H
  clear H
  have H := H1
  clear H1
  have i4 := Aside0.mk H
  clear H
  go_enter Tryz.func15, Tryz.ntmps15
  go_upto_region 4 with (first | ((with_reducible refine gate_dst (N := 1) rfl ?_); (try (refine gate_guard (by rfl) ?_; dsimp only)); refine box_event ?hg (N := 1) ?hd (cs := #[.string ac, .slice az ab.length aA, .string ad, .string ae, .slice aB ag.length aC, .slice aD ai.length aE, .slice ax af.length ay, .string ah]) (t := 29) ?hr ?_; (case hd => rfl); (case hg => rfl); (case hr => first | (go_simp; done) | (go_simp; rfl)); intro av hg w5 hbox hb; have aK := Aside0.mk (wT_ (Qw HB.out) hb); have aL := Aside0.mk (hbox); have a9 := Aside0.mk ((by rw [hg]; exact (wZ_ (Qw HB.out)) : w.heap.size ≤ av)); have ck := Aside0.mk ((by rw [hg]; exact (wZ_ (Qw HB.out)) : w.heap.size ≤ av)); clear HB; have HB := aK; have aa := aL; have GW405 := a9; have am := ck; clear aK aL a9 ck; clear hb hbox hg; have bZ : w5.cell? ⟨av, 0, none⟩ = some (.string ac) := (bC_ aa.out 0).trans rfl; have b0 : w5.cell? ⟨av, 1, none⟩ = some (.slice az ab.length aA) := (bC_ aa.out 1).trans rfl; have b1 : w5.cell? ⟨av, 2, none⟩ = some (.string ad) := (bC_ aa.out 2).trans rfl; have b2 : w5.cell? ⟨av, 3, none⟩ = some (.string ae) := (bC_ aa.out 3).trans rfl; have b3 : w5.cell? ⟨av, 4, none⟩ = some (.slice aB ag.length aC) := (bC_ aa.out 4).trans rfl; have b4 : w5.cell? ⟨av, 5, none⟩ = some (.slice aD ai.length aE) := (bC_ aa.out 5).trans rfl; have b5 : w5.cell? ⟨av, 6, none⟩ = some (.slice ax af.length ay) := (bC_ aa.out 6).trans rfl; have b6 : w5.cell? ⟨av, 7, none⟩ = some (.string ah) := (bC_ aa.out 7).trans rfl; have b7 := bF_ aa.out 0; have b8 := bF_ aa.out 1; have b9 := bF_ aa.out 2; have ca := bF_ aa.out 3; have cb := bF_ aa.out 4; have cc := bF_ aa.out 5; have cd := bF_ aa.out 6; have ce := bF_ aa.out 7) | ((with_reducible refine gate_callee (f := 47) rfl ?_); refine goesL_ (some 13) rfl rfl Tryz.func47 (by kernel_rfl) rfl #[.agg #[.string ac, .slice az ab.length aA, .string ad, .string ae, .slice aB ag.length aC, .slice aD ai.length aE, .slice ax af.length ay, .string ah]] rfl Qm ?_; (with_reducible refine (r6_small.calls k ac _ _ ab ad ae _ _ ag _ _ ai _ _ af ah true _ ?side1 ?side2 ?side3 ?side4 ?side5 ?side6 ?side7 ?side8 A2.out).mono ?_); (case side1 => exact Qc (cB_ aN.out HB.out)); (case side2 => exact aZ.out); (case side3 => exact Qc (cB_ a0.out HB.out)); (case side4 => exact a1.out); (case side5 => exact Qc (cB_ a2.out HB.out)); (case side6 => exact a3.out); (case side7 => exact Qc (cB_ aI.out HB.out)); (case side8 => exact aJ.out); rintro e w7 ⟨rfl, hb⟩; refine ⟨_, rfl, ?_⟩; have aK := Aside0.mk (blk_below (g := av) (o := .cells #[.string ac, .slice az ab.length aA, .string ad, .string ae, .slice aB ag.length aC, .slice aD ai.length aE, .slice ax af.length ay, .string ah] 29 (0, 0)) (Qb aa.out) hb); have aL := Aside0.mk (wT_ (Qv HB.out am.out) hb); clear aa; clear HB; have aa := aK; have HB := aL; clear aK aL; (try clear hb); (try clear hk)))
  (try simp only [Act.put, List.setIfInBounds_toArray, List.set_cons_zero, List.set_cons_succ])
  go_cut [4] (fun v4 wc => ∃ (kq : Nat) (a7 : Bool), v4 = .bool a7 ∧ Aside0 (r6_Right.j0 kq a7 ac ab ad ae ag ai af ah = some r) ∧ Aside0 (kq ≤ k) ∧ Aside0 (wc.heap[av]? = some (.cells #[.string ac, (.slice az ab.length aA), .string ad, .string ae, (.slice aB ag.length aC), (.slice aD ai.length aE), (.slice ax af.length ay), .string ah] 29 (0, 0))) ∧ Aside0 (Below w.heap.size w wc))
  case first =>
   have H := i4.out
   clear i4
   by_cases c8 : ac.toList = ([] : List UInt8)
   ·rw [if_pos c8] at H
    have ba : (ac.toList == ([] : List UInt8)) = true := beq_iff_eq.mpr c8
    have bb : ac.toList.isEmpty = true := List.isEmpty_iff.2 c8
    have cf : (!ac.toList.isEmpty) = false := by rw [bb]; rfl
    have cg : (ac.toList != ([] : List UInt8)) = false := bne_eq_false_iff_eq.mpr c8
    clear c8
    (first | rw [cf] | rw [bb] | rw [ba] | rw [cg] | (simp only [i64_w, i32_w]; rw [ba]) | skip)
    by_cases c9 : (ab.length : Int) = 0
    ·rw [if_pos c9] at H
     have i5 : ((ab.length : Int) == 0) = true := beq_iff_eq.mpr c9
     have i6 : ((ab.length : Int) != 0) = false := bne_eq_false_iff_eq.mpr c9
     clear c9
     by_cases c10 : ad.toList = ([] : List UInt8)
     ·rw [if_pos c10] at H
      have cl : (ad.toList == ([] : List UInt8)) = true := beq_iff_eq.mpr c10
      have bc : ad.toList.isEmpty = true := List.isEmpty_iff.2 c10
      have cm : (!ad.toList.isEmpty) = false := by rw [bc]; rfl
      have cn : (ad.toList != ([] : List UInt8)) = false := bne_eq_false_iff_eq.mpr c10
      clear c10
      by_cases c11 : ae.toList = ([] : List UInt8)
      ·rw [if_pos c11] at H
       have co : (ae.toList == ([] : List UInt8)) = true := beq_iff_eq.mpr c11
       have bd : ae.toList.isEmpty = true := List.isEmpty_iff.2 c11
       have cp : (!ae.toList.isEmpty) = false := by rw [bd]; rfl
       have cq : (ae.toList != ([] : List UInt8)) = false := bne_eq_false_iff_eq.mpr c11
       clear c11
       by_cases c12 : (ag.length : Int) = 0
       ·rw [if_pos c12] at H
        have cr : ((ag.length : Int) == 0) = true := beq_iff_eq.mpr c12
        have ct : ((ag.length : Int) != 0) = false := bne_eq_false_iff_eq.mpr c12
        clear c12
        have H' := Aside0.mk H
        clear H
        obtain ⟨cN, cO, cP, cQ, cR, cS, cT, cU, cV, cW, cX, cY, cZ, c0, c1, da⟩ := c8_14 aa.out
        go_wp2
        go_meet
        case rel => exact ⟨_, (((ai.length : Int) == 0)), Qs, H', ⟨by first | omega | exact Nat.le_refl _⟩, ⟨Qb aa.out⟩, ⟨Qv HB.out am.out⟩⟩
       ·rw [if_neg c12] at H
        have cr : ((ag.length : Int) == 0) = false := beq_eq_false_iff_ne.mpr c12
        have ct : ((ag.length : Int) != 0) = true := bne_iff_ne.mpr c12
        have i9 : ¬ (ag = []) := fun h_ => c12 (by rw [h_]; rfl)
        have H' := Aside0.mk H
        clear H
        obtain ⟨db, dc, dd, de, df, dg, dh, di, dj, dk, dl, dm, dn, dp, dq, dr⟩ := c8_14 aa.out
        go_wp2
        go_meet
        case rel => exact ⟨_, (false), Qs, H', ⟨by first | omega | exact Nat.le_refl _⟩, ⟨Qb aa.out⟩, ⟨Qv HB.out am.out⟩⟩
      ·rw [if_neg c11] at H
       have co : (ae.toList == ([] : List UInt8)) = false := beq_eq_false_iff_ne.mpr c11
       have bd : ae.toList.isEmpty = false := List.isEmpty_eq_false_iff.2 c11
       have cp : (!ae.toList.isEmpty) = true := by rw [bd]; rfl
       have cq : (ae.toList != ([] : List UInt8)) = true := bne_iff_ne.mpr c11
       have H' := Aside0.mk H
       clear H
       obtain ⟨ds, dt, du, dv, dw, dx, dy, dz, dA, dB, dC, dD, dE, dF, dG, dH⟩ := c8_14 aa.out
       go_wp2
       go_meet
       case rel => exact ⟨_, (false), Qs, H', ⟨by first | omega | exact Nat.le_refl _⟩, ⟨Qb aa.out⟩, ⟨Qv HB.out am.out⟩⟩
     ·rw [if_neg c10] at H
      have cl : (ad.toList == ([] : List UInt8)) = false := beq_eq_false_iff_ne.mpr c10
      have bc : ad.toList.isEmpty = false := List.isEmpty_eq_false_iff.2 c10
      have cm : (!ad.toList.isEmpty) = true := by rw [bc]; rfl
      have cn : (ad.toList != ([] : List UInt8)) = true := bne_iff_ne.mpr c10
      have H' := Aside0.mk H
      clear H
      obtain ⟨dI, dJ, dK, dL, dM, dN, dO, dP, dQ, dR, dS, dT, dU, dV, dW, dX⟩ := c8_14 aa.out
      go_wp2
      go_meet
      case rel => exact ⟨_, (false), Qs, H', ⟨by first | omega | exact Nat.le_refl _⟩, ⟨Qb aa.out⟩, ⟨Qv HB.out am.out⟩⟩
    ·rw [if_neg c9] at H
     have i5 : ((ab.length : Int) == 0) = false := beq_eq_false_iff_ne.mpr c9
     have i6 : ((ab.length : Int) != 0) = true := bne_iff_ne.mpr c9
     have jd : ¬ (ab = []) := fun h_ => c9 (by rw [h_]; rfl)
     have H' := Aside0.mk H
     clear H
     obtain ⟨dY, dZ, d0, d1, d2, d3, d4, d5, d6, d7, d8, d9, ea, eb, ec, ed⟩ := c8_14 aa.out
     go_wp2
     go_meet
     case rel => exact ⟨_, (false), Qs, H', ⟨by first | omega | exact Nat.le_refl _⟩, ⟨Qb aa.out⟩, ⟨Qv HB.out am.out⟩⟩
   ·rw [if_neg c8] at H
    have ba : (ac.toList == ([] : List UInt8)) = false := beq_eq_false_iff_ne.mpr c8
    have bb : ac.toList.isEmpty = false := List.isEmpty_eq_false_iff.2 c8
    have cf : (!ac.toList.isEmpty) = true := by rw [bb]; rfl
    have cg : (ac.toList != ([] : List UInt8)) = true := bne_iff_ne.mpr c8
    (first | rw [cf] | rw [bb] | rw [ba] | rw [cg] | (simp only [i64_w, i32_w]; rw [ba]) | skip)
    have H' := Aside0.mk H
    clear H
    obtain ⟨ee, ef, eg, eh, ei, ej, ek, el, em, en, eo, ep, eq, er, es, eu⟩ := c8_14 aa.out
    go_wp2
    go_meet
    case rel => exact ⟨_, (false), Qs, H', ⟨by first | omega | exact Nat.le_refl _⟩, ⟨Qb aa.out⟩, ⟨Qv HB.out am.out⟩⟩
  case rest =>
   clear i4
   try clear bZ b0 b1 b2 b3 b4 b5 b6; try clear b7 b8 b9 ca cb cc cd ce
   obtain ⟨kq, a7, rfl, HA, HJ3, aa, HB⟩ := hcut
   cases kq with
   | zero => exact absurd HA.out (by simp [r6_Right.j0])
   | succ kj3 =>
    have H := HA.out
    clear HA
    simp only [r6_Right.j0] at H
    by_cases c19 : ah.toList = ([] : List UInt8)
    ·rw [if_pos c19] at H
     have bV : (ah.toList == ([] : List UInt8)) = true := beq_iff_eq.mpr c19
     have be : ah.toList.isEmpty = true := List.isEmpty_iff.2 c19
     have cu : (!ah.toList.isEmpty) = false := by rw [be]; rfl
     have bW : (ah.toList != ([] : List UInt8)) = false := bne_eq_false_iff_eq.mpr c19
     clear c19
     by_cases c20 : ac.toList = ([] : List UInt8)
     ·rw [if_pos c20] at H
      have bX : (ac.toList == ([] : List UInt8)) = true := beq_iff_eq.mpr c20
      have bf : ac.toList.isEmpty = true := List.isEmpty_iff.2 c20
      have cv : (!ac.toList.isEmpty) = false := by rw [bf]; rfl
      have bY : (ac.toList != ([] : List UInt8)) = false := bne_eq_false_iff_eq.mpr c20
      clear c20
      replace H := Option.bind_eq_some_iff.mp H
      obtain ⟨aX, cw, H⟩ := H
      replace H : (if a7 = true then (if (af.length : Int) > 0 then (some aX) else (some false)) else (some false)) = some r := H
      have i7 := Aside0.mk cw
      clear cw
      by_cases c22 : a7 = true
      ·subst c22
       have H1 : (if (af.length : Int) > 0 then (some aX) else (some false)) = some r := by rw [if_pos rfl] at H; exact H
       clear H
       have H := H1
       clear H1
       by_cases c23 : (af.length : Int) > 0
       ·rw [if_pos c23] at H
        have cx : decide (0 < (af.length : Int)) = true := decide_eq_true c23
        have cy : decide (0 < af.length) = true := decide_eq_true (by omega)
        clear c23
        obtain rfl := Option.some.inj H
        obtain ⟨ev, ew, ex, ey, ez, eA, eB, eC, eD, eE, eF, eG, eH, eI, eJ, eK⟩ := c8_14 aa.out
        go_wp2_with (first | ((with_reducible refine gate_callee (f := 49) rfl ?_); refine goesL_ (some 68) rfl rfl Tryz.func49 (by kernel_rfl) rfl #[.slice ax af.length ay, .int .i64 1] rfl Qm ?_; (with_reducible refine (r6_subs.calls kj3 _ _ af 1 aX _ ?side1 ?side2 i7.out).mono ?_); (case side1 => exact Qc (cB_ aI.out HB.out)); (case side2 => exact aJ.out); rintro e w' ⟨rfl, ⟨nd, rfl⟩⟩; refine ⟨_, rfl, ?_⟩))
        go_ret
        exact ⟨Qe, Qv HB.out am.out⟩
       ·rw [if_neg c23] at H
        have cx : decide (0 < (af.length : Int)) = false := decide_eq_false c23
        have cy : decide (0 < af.length) = false := decide_eq_false (by omega)
        clear c23
        obtain rfl := Option.some.inj H
        obtain ⟨eL, eM, eN, eO, eP, eQ, eR, eS, eT, eU, eV, eW, eX, eY, eZ, e0⟩ := c8_14 aa.out
        go_wp2_with (first | ((with_reducible refine gate_callee (f := 49) rfl ?_); refine goesL_ (some 68) rfl rfl Tryz.func49 (by kernel_rfl) rfl #[.slice ax af.length ay, .int .i64 1] rfl Qm ?_; (with_reducible refine (r6_subs.calls kj3 _ _ af 1 aX _ ?side1 ?side2 i7.out).mono ?_); (case side1 => exact Qc (cB_ aI.out HB.out)); (case side2 => exact aJ.out); rintro e w' ⟨rfl, ⟨nd, rfl⟩⟩; refine ⟨_, rfl, ?_⟩))
        go_ret
        exact ⟨Qe, Qv HB.out am.out⟩
      ·replace c22 := Bool.eq_false_iff.mpr c22
       subst c22
       have H1 : (some false) = some r := by rw [if_neg (show ¬ (false = true) by decide)] at H; exact H
       clear H
       have H := H1
       clear H1
       obtain rfl := Option.some.inj H
       obtain ⟨e1, e2, e3, e4, e5, e6, e7, e8, e9, fa, fb, fc, fd, fe, ff, fg⟩ := c8_14 aa.out
       go_wp2_with (first | ((with_reducible refine gate_callee (f := 49) rfl ?_); refine goesL_ (some 68) rfl rfl Tryz.func49 (by kernel_rfl) rfl #[.slice ax af.length ay, .int .i64 1] rfl Qm ?_; (with_reducible refine (r6_subs.calls kj3 _ _ af 1 aX _ ?side1 ?side2 i7.out).mono ?_); (case side1 => exact Qc (cB_ aI.out HB.out)); (case side2 => exact aJ.out); rintro e w' ⟨rfl, ⟨nd, rfl⟩⟩; refine ⟨_, rfl, ?_⟩))
       go_ret
       exact ⟨Qe, Qv HB.out am.out⟩
     ·rw [if_neg c20] at H
      have bX : (ac.toList == ([] : List UInt8)) = false := beq_eq_false_iff_ne.mpr c20
      have bf : ac.toList.isEmpty = false := List.isEmpty_eq_false_iff.2 c20
      have cv : (!ac.toList.isEmpty) = true := by rw [bf]; rfl
      have bY : (ac.toList != ([] : List UInt8)) = true := bne_iff_ne.mpr c20
      replace H := Option.bind_eq_some_iff.mp H
      obtain ⟨aG, cz, H⟩ := H
      replace H : (if ad.toList = ([] : List UInt8) then (r6_Right.j1 kj3 aG true ac ab ad ae ag ai af ah) else ((r6_Script.f kj3 ad).bind fun aY => (r6_Right.j1 kj3 aG aY ac ab ad ae ag ai af ah))) = some r := H
      have je := Aside0.mk cz
      clear cz
      have ch := Aside0.mk H
      clear H
      obtain ⟨bn, bo, bp, bq, br, bs, bu, bv, bw, bx, bz, bA, bB, bC, bD, bE⟩ := c8_14 aa.out
      go_upto_region 11 with (first | ((with_reducible refine gate_callee (f := 50) rfl ?_); refine goesL_ (some 81) rfl rfl Tryz.func50 (by kernel_rfl) rfl #[.string ac] rfl Qm ?_; (with_reducible refine (r6_Language.calls kj3 ac aG _ je.out).mono ?_); rintro e w' ⟨rfl, ⟨nd, rfl⟩⟩; refine ⟨_, rfl, ?_⟩))
      (try simp only [Act.put, List.setIfInBounds_toArray, List.set_cons_zero, List.set_cons_succ])
      go_cut [7] (fun v7 wc => ∃ (kq : Nat) (aF : Bool), v7 = .bool aF ∧ Aside0 (r6_Right.j1 kq aG aF ac ab ad ae ag ai af ah = some r) ∧ Aside0 (kq ≤ kj3) ∧ Aside0 (wc.heap[av]? = some (.cells #[.string ac, (.slice az ab.length aA), .string ad, .string ae, (.slice aB ag.length aC), (.slice aD ai.length aE), (.slice ax af.length ay), .string ah] 29 (0, 0))) ∧ Aside0 (Below w.heap.size w wc))
      case first =>
       have H := ch.out
       clear ch
       by_cases c30 : ad.toList = ([] : List UInt8)
       ·rw [if_pos c30] at H
        have aS : (ad.toList == ([] : List UInt8)) = true := beq_iff_eq.mpr c30
        have aT : ad.toList.isEmpty = true := List.isEmpty_iff.2 c30
        have bg : (!ad.toList.isEmpty) = false := by rw [aT]; rfl
        have bh : (ad.toList != ([] : List UInt8)) = false := bne_eq_false_iff_eq.mpr c30
        clear c30
        (first | rw [bg] | rw [aT] | rw [aS] | rw [bh] | (simp only [i64_w, i32_w]; rw [aS]) | skip)
        have H' := Aside0.mk H
        clear H
        obtain ⟨fh, fi, fj, fk, fl, fm, fn, fo, fp, fq, fr, fs, ft, fu, fv, fw⟩ := c8_14 aa.out
        go_wp2
        go_meet
        case rel => exact ⟨_, (true), Qs, H', ⟨by have := HJ3.out; first | omega | exact Nat.le_refl _⟩, ⟨Qb aa.out⟩, ⟨Qv HB.out am.out⟩⟩
       ·rw [if_neg c30] at H
        have aS : (ad.toList == ([] : List UInt8)) = false := beq_eq_false_iff_ne.mpr c30
        have aT : ad.toList.isEmpty = false := List.isEmpty_eq_false_iff.2 c30
        have bg : (!ad.toList.isEmpty) = true := by rw [aT]; rfl
        have bh : (ad.toList != ([] : List UInt8)) = true := bne_iff_ne.mpr c30
        (first | rw [bg] | rw [aT] | rw [aS] | rw [bh] | (simp only [i64_w, i32_w]; rw [aS]) | skip)
        replace H := Option.bind_eq_some_iff.mp H
        obtain ⟨aY, cA, H⟩ := H
        replace H : (r6_Right.j1 kj3 aG aY ac ab ad ae ag ai af ah) = some r := H
        have jf := Aside0.mk cA
        clear cA
        have H' := Aside0.mk H
        clear H
        obtain ⟨fx, fy, fz, fA, fB, fC, fD, fE, fF, fG, fH, fI, fJ, fK, fL, fM⟩ := c8_14 aa.out
        go_wp2_with (first | (go_at_call 51; (with_reducible refine (r6_Script.calls kj3 ad aY _ jf.out).mono ?_); rintro e w' ⟨rfl, ⟨nd, rfl⟩⟩))
        go_meet
        case rel => exact ⟨_, (aY), Qs, H', ⟨by have := HJ3.out; first | omega | exact Nat.le_refl _⟩, ⟨Qb aa.out⟩, ⟨Qv HB.out am.out⟩⟩
      case rest =>
       clear ch
       try clear bV; try clear bW; try clear c20; try clear bX; try clear bY
       try clear bn bo bp bq br bs bu bv; try clear bw bx bz bA bB bC bD bE
       obtain ⟨kq, aF, rfl, HA, HJ27, aa, HB⟩ := hcut
       cases kq with
       | zero => exact absurd HA.out (by simp [r6_Right.j1])
       | succ kj27 =>
        have H := HA.out
        clear HA
        simp only [r6_Right.j1] at H
        have ci := Aside0.mk H
        clear H
        go_upto_region 12 with (fail)
        go_cut [8] (fun v8 wc => ∃ (kq : Nat) (aM : Bool), v8 = .bool aM ∧ Aside0 (r6_Right.j2 kq aG aF aM ac ab ad ae ag ai af ah = some r) ∧ Aside0 (kq ≤ kj27) ∧ Aside0 (wc.heap[av]? = some (.cells #[.string ac, (.slice az ab.length aA), .string ad, .string ae, (.slice aB ag.length aC), (.slice aD ai.length aE), (.slice ax af.length ay), .string ah] 29 (0, 0))) ∧ Aside0 (Below w.heap.size w wc))
        case first =>
         have H := ci.out
         clear ci
         by_cases c35 : ae.toList = ([] : List UInt8)
         ·rw [if_pos c35] at H
          have aU : (ae.toList == ([] : List UInt8)) = true := beq_iff_eq.mpr c35
          have aV : ae.toList.isEmpty = true := List.isEmpty_iff.2 c35
          have bi : (!ae.toList.isEmpty) = false := by rw [aV]; rfl
          have bj : (ae.toList != ([] : List UInt8)) = false := bne_eq_false_iff_eq.mpr c35
          clear c35
          (first | rw [bi] | rw [aV] | rw [aU] | rw [bj] | (simp only [i64_w, i32_w]; rw [aU]) | skip)
          have H' := Aside0.mk H
          clear H
          obtain ⟨fN, fO, fP, fQ, fR, fS, fT, fU, fV, fW, fX, fY, fZ, f0, f1, f2⟩ := c8_14 aa.out
          go_wp2
          go_meet
          case rel => exact ⟨_, (true), Qs, H', ⟨by have := HJ3.out; have := HJ27.out; first | omega | exact Nat.le_refl _⟩, ⟨Qb aa.out⟩, ⟨Qv HB.out am.out⟩⟩
         ·rw [if_neg c35] at H
          have aU : (ae.toList == ([] : List UInt8)) = false := beq_eq_false_iff_ne.mpr c35
          have aV : ae.toList.isEmpty = false := List.isEmpty_eq_false_iff.2 c35
          have bi : (!ae.toList.isEmpty) = true := by rw [aV]; rfl
          have bj : (ae.toList != ([] : List UInt8)) = true := bne_iff_ne.mpr c35
          (first | rw [bi] | rw [aV] | rw [aU] | rw [bj] | (simp only [i64_w, i32_w]; rw [aU]) | skip)
          replace H := Option.bind_eq_some_iff.mp H
          obtain ⟨a8, cB, H⟩ := H
          replace H : (r6_Right.j2 kj27 aG aF a8 ac ab ad ae ag ai af ah) = some r := H
          have jg := Aside0.mk cB
          clear cB
          have H' := Aside0.mk H
          clear H
          obtain ⟨f3, f4, f5, f6, f7, f8, f9, ga, gb, gc, ge, gf, gg, gh, gi, gj⟩ := c8_14 aa.out
          go_wp2_with (first | (go_at_call 52; (with_reducible refine (r6_Region.calls kj27 ae a8 _ jg.out).mono ?_); rintro e w' ⟨rfl, ⟨nd, rfl⟩⟩))
          go_meet
          case rel => exact ⟨_, (a8), Qs, H', ⟨by have := HJ3.out; have := HJ27.out; first | omega | exact Nat.le_refl _⟩, ⟨Qb aa.out⟩, ⟨Qv HB.out am.out⟩⟩
        case rest =>
         clear ci
         obtain ⟨kq, aM, rfl, HA, HJ33, aa, HB⟩ := hcut
         cases kq with
         | zero => exact absurd HA.out (by simp [r6_Right.j2])
         | succ kj33 =>
          have H := HA.out
          clear HA
          simp only [r6_Right.j2] at H
          replace H := Option.bind_eq_some_iff.mp H
          obtain ⟨aP, cC, H⟩ := H
          replace H : (if aG = true then (if aF = true then (if aM = true then (if aP = true then (if (ab.length : Int) > 3 then (r6_Right.j3 kj33 true ac ab ad ae ag ai af ah) else (if (ab.length : Int) > 0 then (r6_Right.j3 kj33 (decide ((ac.size : Int) > 3)) ac ab ad ae ag ai af ah) else (r6_Right.j3 kj33 false ac ab ad ae ag ai af ah))) else (r6_Right.j3 kj33 true ac ab ad ae ag ai af ah)) else (r6_Right.j3 kj33 true ac ab ad ae ag ai af ah)) else (r6_Right.j3 kj33 true ac ab ad ae ag ai af ah)) else (r6_Right.j3 kj33 true ac ab ad ae ag ai af ah)) = some r := H
          have jh := Aside0.mk cC
          clear cC
          have cj := Aside0.mk H
          clear H
          obtain ⟨bF, bG, bH, bI, bJ, bK, bL, bM, bN, bO, bP, bQ, bR, bS, bT, bU⟩ := c8_14 aa.out
          go_upto_region 14 with (first | ((with_reducible refine gate_callee (f := 53) rfl ?_); refine goesL_ (some 99) rfl rfl Tryz.func53 (by kernel_rfl) rfl #[.agg #[.string ac, .slice az ab.length aA, .string ad, .string ae, .slice aB ag.length aC, .slice aD ai.length aE, .slice ax af.length ay, .string ah]] rfl Qm ?_; (with_reducible refine (r6_rows.calls kj33 ac _ _ ab ad ae _ _ ag _ _ ai _ _ af ah aP _ ?side1 ?side2 ?side3 ?side4 ?side5 ?side6 ?side7 ?side8 jh.out).mono ?_); (case side1 => exact Qc (cB_ aN.out HB.out)); (case side2 => exact aZ.out); (case side3 => exact Qc (cB_ a0.out HB.out)); (case side4 => exact a1.out); (case side5 => exact Qc (cB_ a2.out HB.out)); (case side6 => exact a3.out); (case side7 => exact Qc (cB_ aI.out HB.out)); (case side8 => exact aJ.out); rintro e w42 ⟨rfl, hb⟩; refine ⟨_, rfl, ?_⟩; have aK := Aside0.mk (blk_below (g := av) (o := .cells #[.string ac, .slice az ab.length aA, .string ad, .string ae, .slice aB ag.length aC, .slice aD ai.length aE, .slice ax af.length ay, .string ah] 29 (0, 0)) (Qb aa.out) hb); have aL := Aside0.mk (wT_ (Qv HB.out am.out) hb); clear aa; clear HB; have aa := aK; have HB := aL; clear aK aL; (try clear hb); (try clear hk)))
          (try simp only [Act.put, List.setIfInBounds_toArray, List.set_cons_zero, List.set_cons_succ])
          go_cut [131] (fun v131 wc => ∃ (kq : Nat) (aH : Bool), v131 = .bool aH ∧ Aside0 (r6_Right.j3 kq aH ac ab ad ae ag ai af ah = some r) ∧ Aside0 (kq ≤ kj33) ∧ Aside0 (wc.heap[av]? = some (.cells #[.string ac, (.slice az ab.length aA), .string ad, .string ae, (.slice aB ag.length aC), (.slice aD ai.length aE), (.slice ax af.length ay), .string ah] 29 (0, 0))) ∧ Aside0 (Below w.heap.size w wc))
          case first =>
           have H := cj.out
           clear cj
           by_cases c43 : aG = true
           ·subst c43
            have H1 : (if aF = true then (if aM = true then (if aP = true then (if (ab.length : Int) > 3 then (r6_Right.j3 kj33 true ac ab ad ae ag ai af ah) else (if (ab.length : Int) > 0 then (r6_Right.j3 kj33 (decide ((ac.size : Int) > 3)) ac ab ad ae ag ai af ah) else (r6_Right.j3 kj33 false ac ab ad ae ag ai af ah))) else (r6_Right.j3 kj33 true ac ab ad ae ag ai af ah)) else (r6_Right.j3 kj33 true ac ab ad ae ag ai af ah)) else (r6_Right.j3 kj33 true ac ab ad ae ag ai af ah)) = some r := by rw [if_pos rfl] at H; exact H
            clear H
            have H := H1
            clear H1
            by_cases c44 : aF = true
            ·subst c44
             have H1 : (if aM = true then (if aP = true then (if (ab.length : Int) > 3 then (r6_Right.j3 kj33 true ac ab ad ae ag ai af ah) else (if (ab.length : Int) > 0 then (r6_Right.j3 kj33 (decide ((ac.size : Int) > 3)) ac ab ad ae ag ai af ah) else (r6_Right.j3 kj33 false ac ab ad ae ag ai af ah))) else (r6_Right.j3 kj33 true ac ab ad ae ag ai af ah)) else (r6_Right.j3 kj33 true ac ab ad ae ag ai af ah)) = some r := by rw [if_pos rfl] at H; exact H
             clear H
             have H := H1
             clear H1
             by_cases c45 : aM = true
             ·subst c45
              have H1 : (if aP = true then (if (ab.length : Int) > 3 then (r6_Right.j3 kj33 true ac ab ad ae ag ai af ah) else (if (ab.length : Int) > 0 then (r6_Right.j3 kj33 (decide ((ac.size : Int) > 3)) ac ab ad ae ag ai af ah) else (r6_Right.j3 kj33 false ac ab ad ae ag ai af ah))) else (r6_Right.j3 kj33 true ac ab ad ae ag ai af ah)) = some r := by rw [if_pos rfl] at H; exact H
              clear H
              have H := H1
              clear H1
              by_cases c46 : aP = true
              ·subst c46
               have H1 : (if (ab.length : Int) > 3 then (r6_Right.j3 kj33 true ac ab ad ae ag ai af ah) else (if (ab.length : Int) > 0 then (r6_Right.j3 kj33 (decide ((ac.size : Int) > 3)) ac ab ad ae ag ai af ah) else (r6_Right.j3 kj33 false ac ab ad ae ag ai af ah))) = some r := by rw [if_pos rfl] at H; exact H
               clear H
               have H := H1
               clear H1
               by_cases c47 : (ab.length : Int) > 3
               ·rw [if_pos c47] at H
                have aW : decide (3 < (ab.length : Int)) = true := decide_eq_true c47
                have bk : decide (3 < ab.length) = true := decide_eq_true (by omega)
                clear c47
                (first | rw [aW] | rw [bk] | (simp only [i64_w, i32_w]; rw [aW]) | skip)
                have H' := Aside0.mk H
                clear H
                obtain ⟨gl, gm, gn, go, gp, gq, gr, gs, gt, gu, gv, gw, gx, gy, gz, gA⟩ := c8_14 aa.out
                go_wp2
                go_meet
                case rel => exact ⟨_, (true), Qs, H', ⟨by have := HJ3.out; have := HJ27.out; have := HJ33.out; first | omega | exact Nat.le_refl _⟩, ⟨Qb aa.out⟩, ⟨Qv HB.out am.out⟩⟩
               ·rw [if_neg c47] at H
                have aW : decide (3 < (ab.length : Int)) = false := decide_eq_false c47
                have bk : decide (3 < ab.length) = false := decide_eq_false (by omega)
                clear c47
                (first | rw [aW] | rw [bk] | (simp only [i64_w, i32_w]; rw [aW]) | skip)
                by_cases c49 : (ab.length : Int) > 0
                ·rw [if_pos c49] at H
                 have cD : decide (0 < (ab.length : Int)) = true := decide_eq_true c49
                 have cE : decide (0 < ab.length) = true := decide_eq_true (by omega)
                 clear c49
                 have H' := Aside0.mk H
                 clear H
                 obtain ⟨gB, gC, gD, gE, gF, gG, gH, gI, gJ, gK, gL, gM, gO, gP, gQ, gR⟩ := c8_14 aa.out
                 go_wp2
                 go_meet
                 case rel => exact ⟨_, (decide ((ac.size : Int) > 3)), Qs, H', ⟨by have := HJ3.out; have := HJ27.out; have := HJ33.out; first | omega | exact Nat.le_refl _⟩, ⟨Qb aa.out⟩, ⟨Qv HB.out am.out⟩⟩
                ·rw [if_neg c49] at H
                 have cD : decide (0 < (ab.length : Int)) = false := decide_eq_false c49
                 have cE : decide (0 < ab.length) = false := decide_eq_false (by omega)
                 clear c49
                 have H' := Aside0.mk H
                 clear H
                 obtain ⟨gS, gT, gU, gV, gW, gX, gY, gZ, g0, g1, g2, g3, g4, g5, g6, g7⟩ := c8_14 aa.out
                 go_wp2
                 go_meet
                 case rel => exact ⟨_, (false), Qs, H', ⟨by have := HJ3.out; have := HJ27.out; have := HJ33.out; first | omega | exact Nat.le_refl _⟩, ⟨Qb aa.out⟩, ⟨Qv HB.out am.out⟩⟩
              ·replace c46 := Bool.eq_false_iff.mpr c46
               subst c46
               have H1 : (r6_Right.j3 kj33 true ac ab ad ae ag ai af ah) = some r := by rw [if_neg (show ¬ (false = true) by decide)] at H; exact H
               clear H
               have H := H1
               clear H1
               have H' := Aside0.mk H
               clear H
               go_wp2
               go_meet
               case rel => exact ⟨_, (true), Qs, H', ⟨by have := HJ3.out; have := HJ27.out; have := HJ33.out; first | omega | exact Nat.le_refl _⟩, ⟨Qb aa.out⟩, ⟨Qv HB.out am.out⟩⟩
             ·replace c45 := Bool.eq_false_iff.mpr c45
              subst c45
              have H1 : (r6_Right.j3 kj33 true ac ab ad ae ag ai af ah) = some r := by rw [if_neg (show ¬ (false = true) by decide)] at H; exact H
              clear H
              have H := H1
              clear H1
              have H' := Aside0.mk H
              clear H
              go_wp2
              go_meet
              case rel => exact ⟨_, (true), Qs, H', ⟨by have := HJ3.out; have := HJ27.out; have := HJ33.out; first | omega | exact Nat.le_refl _⟩, ⟨Qb aa.out⟩, ⟨Qv HB.out am.out⟩⟩
            ·replace c44 := Bool.eq_false_iff.mpr c44
             subst c44
             have H1 : (r6_Right.j3 kj33 true ac ab ad ae ag ai af ah) = some r := by rw [if_neg (show ¬ (false = true) by decide)] at H; exact H
             clear H
             have H := H1
             clear H1
             have H' := Aside0.mk H
             clear H
             go_wp2
             go_meet
             case rel => exact ⟨_, (true), Qs, H', ⟨by have := HJ3.out; have := HJ27.out; have := HJ33.out; first | omega | exact Nat.le_refl _⟩, ⟨Qb aa.out⟩, ⟨Qv HB.out am.out⟩⟩
           ·replace c43 := Bool.eq_false_iff.mpr c43
            subst c43
            have H1 : (r6_Right.j3 kj33 true ac ab ad ae ag ai af ah) = some r := by rw [if_neg (show ¬ (false = true) by decide)] at H; exact H
            clear H
            have H := H1
            clear H1
            have H' := Aside0.mk H
            clear H
            go_wp2
            go_meet
            case rel => exact ⟨_, (true), Qs, H', ⟨by have := HJ3.out; have := HJ27.out; have := HJ33.out; first | omega | exact Nat.le_refl _⟩, ⟨Qb aa.out⟩, ⟨Qv HB.out am.out⟩⟩
          case rest =>
           clear cj
           try clear bF bG bH bI bJ bK bL bM; try clear bN bO bP bQ bR bS bT bU
           obtain ⟨kq, aH, rfl, HA, HJ39, aa, HB⟩ := hcut
           cases kq with
           | zero => exact absurd HA.out (by simp [r6_Right.j3])
           | succ kj39 =>
            have H := HA.out
            clear HA
            simp only [r6_Right.j3] at H
            by_cases c52 : aH = true
            ·subst c52
             have H1 : (some false) = some r := by rw [if_pos rfl] at H; exact H
             clear H
             have H := H1
             clear H1
             obtain rfl := Option.some.inj H
             go_wp2
             go_ret
             exact ⟨Qe, Qv HB.out am.out⟩
            ·replace c52 := Bool.eq_false_iff.mpr c52
             subst c52
             have H1 : (r6_Right.l0 kj39 0 ac ab ad ae ag ai af ah) = some r := by rw [if_neg (show ¬ (false = true) by decide)] at H; exact H
             clear H
             have H := H1
             clear H1
             have H' := Aside0.mk H
             clear H
             go_wp2
             go_loopg [10] kj39 (fun kq v10 w' => ∃ (aw : Int), v10 = .int .i64 aw ∧ Aside0 (r6_Right.l0 kq aw ac ab ad ae ag ai af ah = some r) ∧ Aside0 (kq ≤ kj39) ∧ Aside0 (w'.heap[av]? = some (.cells #[.string ac, (.slice az ab.length aA), .string ad, .string ae, (.slice aB ag.length aC), (.slice aD ai.length aE), (.slice ax af.length ay), .string ah] 29 (0, 0))) ∧ Aside0 (Below w.heap.size w w'))
             case atStart => exact ⟨(0), Qs, H', ⟨Nat.le_refl _⟩, ⟨Qb aa.out⟩, ⟨Qv HB.out am.out⟩⟩
             case round =>
              clear H'
              obtain ⟨aw, rfl, HA, HK5, aa, HB⟩ := hrel
              cases gk with
              | zero => exact absurd HA.out (by simp [r6_Right.l0])
              | succ k5 =>
               have H := HA.out
               clear HA
               simp only [r6_Right.l0] at H
               by_cases c53 : aw < (ab.length : Int)
               ·rw [if_pos c53] at H
                have cF : decide (aw < (ab.length : Int)) = true := decide_eq_true c53
                clear c53
                by_cases c54 : 0 ≤ aw
                ·rw [if_pos c54] at H
                 have ja : decide (0 ≤ aw) = true := decide_eq_true c54
                 clear c54
                 replace H := Option.bind_eq_some_iff.mp H
                 obtain ⟨bm, cG, H⟩ := H
                 replace H : (if bm = true then (r6_Right.l0 k5 (wrap64 (aw + 1)) ac ab ad ae ag ai af ah) else (some false)) = some r := H
                 have jb := Aside0.mk cG
                 clear cG
                 by_cases c56 : bm = true
                 ·subst c56
                  have H1 : (r6_Right.l0 k5 (wrap64 (aw + 1)) ac ab ad ae ag ai af ah) = some r := by rw [if_pos rfl] at H; exact H
                  clear H
                  have H := H1
                  clear H1
                  have H' := Aside0.mk H
                  clear H
                  obtain ⟨g8, g9, ha, hc, he, hf, hh, hi, hj, hl, hm, hn, ho, hp, hq, hs⟩ := c8_14 aa.out
                  have p413 : 0 ≤ (aw : Int) := of_decide_eq_true Qa
                  have q413 : aw < (ab.length : Int) := of_decide_eq_true Qa
                  obtain ⟨ad413, e413, hx413_0⟩ := Kd.at_string aN.out aw p413 q413
                  cases e413
                  replace hx413_0 := (HB.out.cell (World.block_lt_of_cell? w _ hx413_0)).trans hx413_0
                  replace p413 := eq_true p413
                  replace q413 := eq_true q413
                  go_wp2_with (first | ((with_reducible refine gate_callee (f := 54) rfl ?_); refine goesL_ (some 144) rfl rfl Tryz.func54 (by kernel_rfl) rfl #[.string (rdOf ByteArray.empty ab aw)] rfl Qm ?_; (with_reducible refine (r6_Extlang.calls k5 (rdOf ByteArray.empty ab aw) true _ jb.out).mono ?_); rintro e w' ⟨rfl, ⟨nd, rfl⟩⟩; refine ⟨_, rfl, ?_⟩))
                  go_roundg k5
                  case measure => have := HJ3.out; have := HJ27.out; have := HJ33.out; have := HJ39.out; have := HK5.out; omega
                  case rel => exact ⟨(wrap64 (aw + 1)), Qs, H', ⟨by have := HJ3.out; have := HJ27.out; have := HJ33.out; have := HJ39.out; have := HK5.out; omega⟩, ⟨Qb aa.out⟩, ⟨Qv HB.out am.out⟩⟩
                 ·replace c56 := Bool.eq_false_iff.mpr c56
                  subst c56
                  have H1 : (some false) = some r := by rw [if_neg (show ¬ (false = true) by decide)] at H; exact H
                  clear H
                  have H := H1
                  clear H1
                  obtain rfl := Option.some.inj H
                  obtain ⟨ht, hu, hv, hw, hx, hy, hz, hA, hB, hC, hD, hE, hF, hG, hH, hI⟩ := c8_14 aa.out
                  have p413 : 0 ≤ (aw : Int) := of_decide_eq_true Qa
                  have q413 : aw < (ab.length : Int) := of_decide_eq_true Qa
                  obtain ⟨ad413, e413, hx413_0⟩ := Kd.at_string aN.out aw p413 q413
                  cases e413
                  replace hx413_0 := (HB.out.cell (World.block_lt_of_cell? w _ hx413_0)).trans hx413_0
                  replace p413 := eq_true p413
                  replace q413 := eq_true q413
                  go_wp2_with (first | ((with_reducible refine gate_callee (f := 54) rfl ?_); refine goesL_ (some 144) rfl rfl Tryz.func54 (by kernel_rfl) rfl #[.string (rdOf ByteArray.empty ab aw)] rfl Qm ?_; (with_reducible refine (r6_Extlang.calls k5 (rdOf ByteArray.empty ab aw) false _ jb.out).mono ?_); rintro e w' ⟨rfl, ⟨nd, rfl⟩⟩; refine ⟨_, rfl, ?_⟩))
                  go_ret
                  exact ⟨Qe, Qv HB.out am.out⟩
                ·rw [if_neg c54] at H
                 exact absurd H (by simp)
               ·rw [if_neg c53] at H
                have cF : decide (aw < (ab.length : Int)) = false := decide_eq_false c53
                clear c53
                replace H := Option.bind_eq_some_iff.mp H
                obtain ⟨a5, cH, H⟩ := H
                replace H : ((r4_Join.f k5 a5).bind fun aQ => ((r5_Find.f k5 aQ).bind fun aR => (some (decide (aR < 0))))) = some r := H
                have ji := Aside0.mk cH
                clear cH
                replace H := Option.bind_eq_some_iff.mp H
                obtain ⟨aQ, cI, H⟩ := H
                replace H : ((r5_Find.f k5 aQ).bind fun aR => (some (decide (aR < 0)))) = some r := H
                have jj := Aside0.mk cI
                clear cI
                replace H := Option.bind_eq_some_iff.mp H
                obtain ⟨aR, cJ, H⟩ := H
                replace H : (some (decide (aR < 0))) = some r := H
                have jk := Aside0.mk cJ
                clear cJ
                obtain rfl := Option.some.inj H
                obtain ⟨hJ, hK, hL, hM, hN, hO, hP, hQ, hR, hS, hT, hU, hV, hW, hX, hY⟩ := c8_14 aa.out
                go_wp2_with (first | ((with_reducible refine gate_callee (f := 40) rfl ?_); refine goesL_ (some 148) rfl rfl Tryz.func40 (by kernel_rfl) rfl #[.agg #[.string ac, .slice az ab.length aA, .string ad, .string ae, .slice aB ag.length aC, .slice aD ai.length aE, .slice ax af.length ay, .string ah]] rfl Qm ?_; (with_reducible refine (r6_Subtags.calls k5 ac _ _ ab ad ae _ _ ag _ _ ai _ _ af ah a5 _ ?side1 ?side2 ?side3 ?side4 ?side5 ?side6 ?side7 ?side8 ji.out).mono ?_); (case side1 => exact Qc (cB_ aN.out HB.out)); (case side2 => exact aZ.out); (case side3 => exact Qc (cB_ a0.out HB.out)); (case side4 => exact a1.out); (case side5 => exact Qc (cB_ a2.out HB.out)); (case side6 => exact a3.out); (case side7 => exact Qc (cB_ aI.out HB.out)); (case side8 => exact aJ.out); rintro e w63 ⟨v416, rfl, ho0, hb⟩; refine ⟨_, rfl, ?_⟩; have aK := Aside0.mk (Kd.R_lower ho0 (wZ_ (Qv HB.out am.out))); have aL := Aside0.mk (blk_below (g := av) (o := .cells #[.string ac, .slice az ab.length aA, .string ad, .string ae, .slice aB ag.length aC, .slice aD ai.length aE, .slice ax af.length ay, .string ah] 29 (0, 0)) (Qb aa.out) hb); have a9 := Aside0.mk (wT_ (Qv HB.out am.out) hb); clear aa; clear HB; have aO := aK; have aa := aL; have HB := a9; clear aK aL a9; (try clear hb); (try clear ho0); obtain ⟨Ao64, co64, eo64⟩ := Kd.R_slice aO.out; subst eo64) | ((with_reducible refine gate_callee (f := 39) rfl ?_); refine goesL_ (some 149) rfl rfl Tryz.func39 (by kernel_rfl) rfl #[.slice Ao64 a5.length co64] rfl Qm ?_; (with_reducible refine (r4_Join.calls k5 _ _ a5 aQ _ ?side1 ?side2 jj.out).mono ?_); (case side1 => repeat (first | exact (Kd.R_reads' aO.out).2.2 | (with_reducible refine cA_ ?_ _) | (with_reducible refine cN_ ?_ _) | (with_reducible refine cD_ ?_))); (case side2 => exact (Kd.R_reads' aO.out).2.1); rintro e w' ⟨rfl, ⟨nd, rfl⟩⟩; refine ⟨_, rfl, ?_⟩) | ((with_reducible refine gate_callee (f := 48) rfl ?_); refine goesL_ (some 150) rfl rfl Tryz.func48 (by kernel_rfl) rfl #[.string aQ] rfl Qm ?_; (with_reducible refine (r5_Find.calls k5 aQ aR _ jk.out).mono ?_); rintro e w65 ⟨rfl, hb⟩; refine ⟨_, rfl, ?_⟩; have aK := Aside0.mk (Kd.R_below (Qr aO.out) hb); have aL := Aside0.mk (blk_below (g := av) (o := .cells #[.string ac, .slice az ab.length aA, .string ad, .string ae, .slice aB ag.length aC, .slice aD ai.length aE, .slice ax af.length ay, .string ah] 29 (0, 0)) (Qb aa.out) hb); have a9 := Aside0.mk (wT_ (Qv HB.out am.out) hb); clear aO; clear aa; clear HB; have aO := aK; have aa := aL; have HB := a9; clear aK aL a9; (try clear hb); (try clear hk)))
                go_ret
                exact ⟨Qe, Qv HB.out am.out⟩
    ·rw [if_neg c19] at H
     have bV : (ah.toList == ([] : List UInt8)) = false := beq_eq_false_iff_ne.mpr c19
     have be : ah.toList.isEmpty = false := List.isEmpty_eq_false_iff.2 c19
     have cu : (!ah.toList.isEmpty) = true := by rw [be]; rfl
     have bW : (ah.toList != ([] : List UInt8)) = true := bne_iff_ne.mpr c19
     by_cases c66 : a7 = true
     ·subst c66
      have H1 : (if (af.length : Int) = 0 then ((r5_Find.f kj3 ah).bind fun a4 => (some (decide (a4 ≥ 0)))) else (some false)) = some r := by rw [if_pos rfl] at H; exact H
      clear H
      have H := H1
      clear H1
      by_cases c67 : (af.length : Int) = 0
      ·rw [if_pos c67] at H
       have cK : ((af.length : Int) == 0) = true := beq_iff_eq.mpr c67
       have cL : ((af.length : Int) != 0) = false := bne_eq_false_iff_eq.mpr c67
       clear c67
       replace H := Option.bind_eq_some_iff.mp H
       obtain ⟨a4, cM, H⟩ := H
       replace H : (some (decide (a4 ≥ 0))) = some r := H
       have jl := Aside0.mk cM
       clear cM
       obtain rfl := Option.some.inj H
       obtain ⟨hZ, h0, h1, h2, h3, h4, h5, h6, h7, h8, h9, ia, ib, ic, id, ie⟩ := c8_14 aa.out
       go_wp2_with (first | (go_at_call 48; (with_reducible refine (r5_Find.calls kj3 ah a4 _ jl.out).mono ?_); rintro e w70 ⟨rfl, hb⟩; have aK := Aside0.mk (blk_below (g := av) (o := .cells #[.string ac, .slice az ab.length aA, .string ad, .string ae, .slice aB ag.length aC, .slice aD ai.length aE, .slice ax af.length ay, .string ah] 29 (0, 0)) (Qb aa.out) hb); have aL := Aside0.mk (wT_ (Qv HB.out am.out) hb); clear aa; clear HB; have aa := aK; have HB := aL; clear aK aL; (try clear hb); (try clear hk)))
       go_ret
       exact ⟨Qe, Qv HB.out am.out⟩
      ·rw [if_neg c67] at H
       have cK : ((af.length : Int) == 0) = false := beq_eq_false_iff_ne.mpr c67
       have cL : ((af.length : Int) != 0) = true := bne_iff_ne.mpr c67
       have jc : ¬ (af = []) := fun h_ => c67 (by rw [h_]; rfl)
       obtain rfl := Option.some.inj H
       obtain ⟨ig, ih, ii, ij, ik, il, im, io, ip, iq, ir, it, iu, iv, iw, ix⟩ := c8_14 aa.out
       go_wp2
       go_ret
       exact ⟨Qe, Qv HB.out am.out⟩
     ·replace c66 := Bool.eq_false_iff.mpr c66
      subst c66
      have H1 : (some false) = some r := by rw [if_neg (show ¬ (false = true) by decide)] at H; exact H
      clear H
      have H := H1
      clear H1
      obtain rfl := Option.some.inj H
      obtain ⟨iy, iz, iA, iB, iC, iD, iE, iF, iG, iH, iI, iJ, iK, iL, iM, iN⟩ := c8_14 aa.out
      go_wp2
      go_ret
      exact ⟨Qe, Qv HB.out am.out⟩
 ·replace c3 := Bool.eq_false_iff.mpr c3
  subst c3
  have H1 : (some false) = some r := by rw [if_neg (show ¬ (false = true) by decide)] at H; exact H
  clear H
  have H := H1
  clear H1
  obtain rfl := Option.some.inj H
  go_enter Tryz.func15, Tryz.ntmps15
  go_wp2_with (first | ((with_reducible refine gate_dst (N := 1) rfl ?_); (try (refine gate_guard (by rfl) ?_; dsimp only)); refine box_event ?hg (N := 1) ?hd (cs := #[.string ac, .slice az ab.length aA, .string ad, .string ae, .slice aB ag.length aC, .slice aD ai.length aE, .slice ax af.length ay, .string ah]) (t := 29) ?hr ?_; (case hd => rfl); (case hg => rfl); (case hr => first | (go_simp; done) | (go_simp; rfl)); intro av hg w73 hbox hb; have aK := Aside0.mk (wT_ (Qw HB.out) hb); have aL := Aside0.mk (hbox); have a9 := Aside0.mk ((by rw [hg]; exact (wZ_ (Qw HB.out)) : w.heap.size ≤ av)); have ck := Aside0.mk ((by rw [hg]; exact (wZ_ (Qw HB.out)) : w.heap.size ≤ av)); clear HB; have HB := aK; have aa := aL; have GW405 := a9; have am := ck; clear aK aL a9 ck; clear hb hbox hg; have iO : w73.cell? ⟨av, 0, none⟩ = some (.string ac) := (bC_ aa.out 0).trans rfl; have iP : w73.cell? ⟨av, 1, none⟩ = some (.slice az ab.length aA) := (bC_ aa.out 1).trans rfl; have iQ : w73.cell? ⟨av, 2, none⟩ = some (.string ad) := (bC_ aa.out 2).trans rfl; have iR : w73.cell? ⟨av, 3, none⟩ = some (.string ae) := (bC_ aa.out 3).trans rfl; have iS : w73.cell? ⟨av, 4, none⟩ = some (.slice aB ag.length aC) := (bC_ aa.out 4).trans rfl; have iT : w73.cell? ⟨av, 5, none⟩ = some (.slice aD ai.length aE) := (bC_ aa.out 5).trans rfl; have iU : w73.cell? ⟨av, 6, none⟩ = some (.slice ax af.length ay) := (bC_ aa.out 6).trans rfl; have iV : w73.cell? ⟨av, 7, none⟩ = some (.string ah) := (bC_ aa.out 7).trans rfl; have iW := bF_ aa.out 0; have iX := bF_ aa.out 1; have iY := bF_ aa.out 2; have iZ := bF_ aa.out 3; have i0 := bF_ aa.out 4; have i1 := bF_ aa.out 5; have i2 := bF_ aa.out 6; have i3 := bF_ aa.out 7) | ((with_reducible refine gate_callee (f := 47) rfl ?_); refine goesL_ (some 13) rfl rfl Tryz.func47 (by kernel_rfl) rfl #[.agg #[.string ac, .slice az ab.length aA, .string ad, .string ae, .slice aB ag.length aC, .slice aD ai.length aE, .slice ax af.length ay, .string ah]] rfl Qm ?_; (with_reducible refine (r6_small.calls k ac _ _ ab ad ae _ _ ag _ _ ai _ _ af ah false _ ?side1 ?side2 ?side3 ?side4 ?side5 ?side6 ?side7 ?side8 A2.out).mono ?_); (case side1 => exact Qc (cB_ aN.out HB.out)); (case side2 => exact aZ.out); (case side3 => exact Qc (cB_ a0.out HB.out)); (case side4 => exact a1.out); (case side5 => exact Qc (cB_ a2.out HB.out)); (case side6 => exact a3.out); (case side7 => exact Qc (cB_ aI.out HB.out)); (case side8 => exact aJ.out); rintro e w75 ⟨rfl, hb⟩; refine ⟨_, rfl, ?_⟩; have aK := Aside0.mk (blk_below (g := av) (o := .cells #[.string ac, .slice az ab.length aA, .string ad, .string ae, .slice aB ag.length aC, .slice aD ai.length aE, .slice ax af.length ay, .string ah] 29 (0, 0)) (Qb aa.out) hb); have aL := Aside0.mk (wT_ (Qv HB.out am.out) hb); clear aa; clear HB; have aa := aK; have HB := aL; clear aK aL; (try clear hb); (try clear hk)))
  go_ret
  exact ⟨Qe, Qv HB.out am.out⟩
end Go.Proofs.YtejnfbfikadpdaaGreatDoor.P
