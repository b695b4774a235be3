-- Written for this claim by the session's own run of the print, functions proved by hand put in.
import Derived.Test.YtojglflamecnkaaSq
import Derived.Test.YtojglflamecnkaaPx0
import Derived.Test.YtojglflamecnkaaPx11
import Derived.Test.YtojglflamecnkaaPx12
import Derived.Test.YtojglflamecnkaaPx13
import Derived.Test.YtojglflamecnkaaPx14
import Derived.Test.YtojglflamecnkaaPx15
namespace Go.Proofs.Ytojglflamecnkaa.P
open Go.RowKit Go.Proofs.YtojglflamecnkaaW.PrintWords Go.Proofs.YtojglflamecnkaaW.PrintLast Go.Proofs.YtojglflamecnkaaW.PrintMore
open Go.Proofs.YtojglflamecnkaaW.PrintWords renaming blk_alloc → bA_, blk_drewN → bN_, blk_drew → bD_, blk_frozen → bF_, blk_cell → bC_, below_alloc → wA_, pw_below_drewN → wN_, below_drew1 → wD_, below_set → wS_, below_size → wZ_, below_step → wT_
open Go.Proofs.YtojglflamecnkaaW.PrintWords.Kd renaming C_alloc → cA_, C_drewN → cN_, C_drew → cD_, C_below → cB_
theorem c8_16 {w : World} {g : Nat} {t : TypeId} {x0 x1 x2 x3 x4 x5 x6 x7 : Value} (h : w.heap[g]? = some (.cells #[x0, x1, x2, x3, x4, x5, x6, x7] t (0, 0))) : w.cell? ⟨g, 0, none⟩ = some x0 ∧ w.cell? ⟨g, 1, none⟩ = some x1 ∧ w.cell? ⟨g, 2, none⟩ = some x2 ∧ w.cell? ⟨g, 3, none⟩ = some x3 ∧ w.cell? ⟨g, 4, none⟩ = some x4 ∧ w.cell? ⟨g, 5, none⟩ = some x5 ∧ w.cell? ⟨g, 6, none⟩ = some x6 ∧ w.cell? ⟨g, 7, none⟩ = some x7 ∧ w.frozen? ⟨g, 0, none⟩ = false ∧ w.frozen? ⟨g, 1, none⟩ = false ∧ w.frozen? ⟨g, 2, none⟩ = false ∧ w.frozen? ⟨g, 3, none⟩ = false ∧ w.frozen? ⟨g, 4, none⟩ = false ∧ w.frozen? ⟨g, 5, none⟩ = false ∧ w.frozen? ⟨g, 6, none⟩ = false ∧ w.frozen? ⟨g, 7, none⟩ = false :=
  ⟨(bC_ h 0).trans rfl, (bC_ h 1).trans rfl, (bC_ h 2).trans rfl, (bC_ h 3).trans rfl, (bC_ h 4).trans rfl, (bC_ h 5).trans rfl, (bC_ h 6).trans rfl, (bC_ h 7).trans rfl, bF_ h 0, bF_ h 1, bF_ h 2, bF_ h 3, bF_ h 4, bF_ h 5, bF_ h 6, bF_ h 7⟩
attribute [local go_sem] max2_int min2_int max_two min_two max_three min_three max_four min_four   -- for this text's walks alone
set_option linter.unusedVariables false
set_option linter.unusedSimpArgs false
mutual
def r6_Right.j0 : Nat → Bool → ByteArray → List ByteArray → ByteArray → ByteArray → List ByteArray → List (S62) → List ByteArray → ByteArray → Option (Bool)
 | 0, _, _, _, _, _, _, _, _, _ => none
 | k + 1, x4, ak, aj, ao, ap, ar, au, al, aq => if aq.toList = ([] : List UInt8) then (if ak.toList = ([] : List UInt8) then ((r6_subs.f k al 1).bind fun fo => (if x4 = true then (if (al.length : Int) > 0 then (some fo) else (some false)) else (some false))) else ((r6_Language.f k ak).bind fun cj => (if ao.toList = ([] : List UInt8) then (r6_Right.j1 k cj true ak aj ao ap ar au al aq) else ((r6_Script.f k ao).bind fun fp => (r6_Right.j1 k cj fp ak aj ao ap ar au al aq))))) else (if x4 = true then (if (al.length : Int) = 0 then ((r5_Find.f k aq).bind fun gz => (some (decide (gz ≥ 0)))) else (some false)) else (some false))
def r6_Right.j1 : Nat → Bool → Bool → ByteArray → List ByteArray → ByteArray → ByteArray → List ByteArray → List (S62) → List ByteArray → ByteArray → Option (Bool)
 | 0, _, _, _, _, _, _, _, _, _, _ => none
 | k + 1, x6, x7, ak, aj, ao, ap, ar, au, al, aq => if ap.toList = ([] : List UInt8) then (r6_Right.j2 k x6 x7 true ak aj ao ap ar au al aq) else ((r6_Region.f k ap).bind fun gF => (r6_Right.j2 k x6 x7 gF ak aj ao ap ar au al aq))
def r6_Right.j2 : Nat → Bool → Bool → Bool → ByteArray → List ByteArray → ByteArray → ByteArray → List ByteArray → List (S62) → List ByteArray → ByteArray → Option (Bool)
 | 0, _, _, _, _, _, _, _, _, _, _, _ => none
 | k + 1, x6, x7, x8, ak, aj, ao, ap, ar, au, al, aq => (r6_rows.f k ak aj ao ap ar au al aq).bind fun fa => (if x6 = true then (if x7 = true then (if x8 = true then (if fa = true then (if (aj.length : Int) > 3 then (r6_Right.j3 k true ak aj ao ap ar au al aq) else (if (aj.length : Int) > 0 then (r6_Right.j3 k (decide ((ak.size : Int) > 3)) ak aj ao ap ar au al aq) else (r6_Right.j3 k false ak aj ao ap ar au al aq))) else (r6_Right.j3 k true ak aj ao ap ar au al aq)) else (r6_Right.j3 k true ak aj ao ap ar au al aq)) else (r6_Right.j3 k true ak aj ao ap ar au al aq)) else (r6_Right.j3 k true ak aj ao ap ar au al aq))
def r6_Right.j3 : Nat → Bool → ByteArray → List ByteArray → ByteArray → ByteArray → List ByteArray → List (S62) → List ByteArray → ByteArray → Option (Bool)
 | 0, _, _, _, _, _, _, _, _, _ => none
 | k + 1, x131, ak, aj, ao, ap, ar, au, al, aq => if x131 = true then (some false) else (r6_Right.l0 k 0 ak aj ao ap ar au al aq)
def r6_Right.l0 : Nat → Int → ByteArray → List ByteArray → ByteArray → ByteArray → List ByteArray → List (S62) → List ByteArray → ByteArray → Option (Bool)
 | 0, _, _, _, _, _, _, _, _, _ => none
 | k + 1, x10, ak, aj, ao, ap, ar, au, al, aq => if x10 < (aj.length : Int) then (if 0 ≤ x10 then ((r6_Extlang.f k (rdOf ByteArray.empty aj x10)).bind fun gR => (if gR = true then (r6_Right.l0 k (wrap64 (x10 + 1)) ak aj ao ap ar au al aq) else (some false))) else (none)) else ((r6_Subtags.f k ak aj ao ap ar au al aq).bind fun gA => ((r4_Join.f k gA).bind fun fb => ((r5_Find.f k fb).bind fun fc => (some (decide (fc < 0))))))
end
def r6_Right.f (k : Nat) (ac : ByteArray) (ab : List ByteArray) (ad : ByteArray) (ae : ByteArray) (ag : List ByteArray) (ai : List (S62)) (af : List ByteArray) (ah : ByteArray) : Option (Bool) := (r6_small.f k ac ab ad ae ag ai af ah).bind fun gB => (if gB = true then (if ac.toList = ([] : List UInt8) then (if (ab.length : Int) = 0 then (if ad.toList = ([] : List UInt8) then (if ae.toList = ([] : List UInt8) then (if (ag.length : Int) = 0 then (r6_Right.j0 k ((ai.length : Int) == 0) ac ab ad ae ag ai af ah) else (r6_Right.j0 k false ac ab ad ae ag ai af ah)) else (r6_Right.j0 k false ac ab ad ae ag ai af ah)) else (r6_Right.j0 k false ac ab ad ae ag ai af ah)) else (r6_Right.j0 k false ac ab ad ae ag ai af ah)) else (r6_Right.j0 k false ac ab ad ae ag ai af ah)) else (some false))
set_option maxHeartbeats 8000000 in
set_option maxRecDepth 100000 in
theorem r6_Right.calls (k : Nat) (ac : ByteArray) (az : Option Addr) (aA : Nat) (ab : List ByteArray) (ad : ByteArray) (ae : ByteArray) (aB : Option Addr) (aC : Nat) (ag : List ByteArray) (aD : Option Addr) (aE : Nat) (ai : List (S62)) (ax : Option Addr) (ay : Nat) (af : List ByteArray) (ah : ByteArray) (r : Bool) (w : World) (hr0_1 : Kd.C Kd.string w az ab.length ab) (hc0_1 : ab.length ≤ aA) (hr0_4 : Kd.C Kd.string w aB ag.length ag) (hc0_4 : ag.length ≤ aC) (hr0_5 : Kd.C k62 w aD ai.length ai) (hc0_5 : ai.length ≤ aE) (hr0_6 : Kd.C Kd.string w ax af.length af) (hc0_6 : af.length ≤ ay) (h : r6_Right.f k ac ab ad ae ag ai af ah = some r) :
  Calls Try.prog 16 #[.agg #[.string ac, .slice az ab.length aA, .string ad, .string ae, .slice aB ag.length aC, .slice aD ai.length aE, .slice ax af.length ay, .string ah]] w fun e w' => e = .returned (.bool r) ∧ Below w.heap.size w w' := by
 have hu34 := Try.underlying34
 have ev := Aside0.mk hr0_1
 have fq := Aside0.mk hc0_1
 clear hr0_1 hc0_1
 have fr := Aside0.mk hr0_4
 have fs := Aside0.mk hc0_4
 clear hr0_4 hc0_4
 have ft := Aside0.mk hr0_5
 have fu := Aside0.mk hc0_5
 clear hr0_5 hc0_5
 have d7 := Aside0.mk hr0_6
 have d8 := Aside0.mk hc0_6
 clear hr0_6 hc0_6
 have HB := Aside0.mk (Below.refl w.heap.size w)
 have H : ((r6_small.f k ac ab ad ae ag ai af ah).bind fun gB => (if gB = true then (if ac.toList = ([] : List UInt8) then (if (ab.length : Int) = 0 then (if ad.toList = ([] : List UInt8) then (if ae.toList = ([] : List UInt8) then (if (ag.length : Int) = 0 then (r6_Right.j0 k ((ai.length : Int) == 0) ac ab ad ae ag ai af ah) else (r6_Right.j0 k false ac ab ad ae ag ai af ah)) else (r6_Right.j0 k false ac ab ad ae ag ai af ah)) else (r6_Right.j0 k false ac ab ad ae ag ai af ah)) else (r6_Right.j0 k false ac ab ad ae ag ai af ah)) else (r6_Right.j0 k false ac ab ad ae ag ai af ah)) else (some false))) = some r := h
 clear h
 replace H := Option.bind_eq_some_iff.mp H
 obtain ⟨gB, jd, H⟩ := H
 replace H : (if gB = true then (if ac.toList = ([] : List UInt8) then (if (ab.length : Int) = 0 then (if ad.toList = ([] : List UInt8) then (if ae.toList = ([] : List UInt8) then (if (ag.length : Int) = 0 then (r6_Right.j0 k ((ai.length : Int) == 0) ac ab ad ae ag ai af ah) else (r6_Right.j0 k false ac ab ad ae ag ai af ah)) else (r6_Right.j0 k false ac ab ad ae ag ai af ah)) else (r6_Right.j0 k false ac ab ad ae ag ai af ah)) else (r6_Right.j0 k false ac ab ad ae ag ai af ah)) else (r6_Right.j0 k false ac ab ad ae ag ai af ah)) else (some false)) = some r := H
 have A2 := Aside0.mk jd
 clear jd
 by_cases c3 : gB = true
 ·subst c3
  have H1 : (if ac.toList = ([] : List UInt8) then (if (ab.length : Int) = 0 then (if ad.toList = ([] : List UInt8) then (if ae.toList = ([] : List UInt8) then (if (ag.length : Int) = 0 then (r6_Right.j0 k ((ai.length : Int) == 0) ac ab ad ae ag ai af ah) else (r6_Right.j0 k false ac ab ad ae ag ai af ah)) else (r6_Right.j0 k false ac ab ad ae ag ai af ah)) else (r6_Right.j0 k false ac ab ad ae ag ai af ah)) else (r6_Right.j0 k false ac ab ad ae ag ai af ah)) else (r6_Right.j0 k false ac ab ad ae ag ai af ah)) = some r := by rw [if_pos rfl] at H; exact H
  clear H
  have H := H1
  clear H1
  have jb := Aside0.mk H
  clear H
  go_enter Try.func16, Try.ntmps16
  go_upto_region 4 with (first | ((with_reducible refine gate_dst (N := 1) rfl ?_); (try (refine gate_guard (by rfl) ?_; dsimp only)); refine box_event ?hg (N := 1) ?hd (cs := #[.string ac, .slice az ab.length aA, .string ad, .string ae, .slice aB ag.length aC, .slice aD ai.length aE, .slice ax af.length ay, .string ah]) (t := 34) ?hr ?_; (case hd => rfl); (case hg => rfl); (case hr => first | (go_simp; done) | (go_simp; rfl)); intro av hg w5 hbox hb; have d9 := Aside0.mk (wT_ (Qw HB.out) hb); have ea := Aside0.mk (hbox); have gG := Aside0.mk ((by rw [hg]; exact (wZ_ (Qw HB.out)) : w.heap.size ≤ av)); have gW := Aside0.mk ((by rw [hg]; exact (wZ_ (Qw HB.out)) : w.heap.size ≤ av)); clear HB; have HB := d9; have aa := ea; have GW366 := gG; have am := gW; clear d9 ea gG gW; clear hb hbox hg; have eb : w5.cell? ⟨av, 0, none⟩ = some (.string ac) := (bC_ aa.out 0).trans rfl; have ec : w5.cell? ⟨av, 1, none⟩ = some (.slice az ab.length aA) := (bC_ aa.out 1).trans rfl; have ed : w5.cell? ⟨av, 2, none⟩ = some (.string ad) := (bC_ aa.out 2).trans rfl; have ee : w5.cell? ⟨av, 3, none⟩ = some (.string ae) := (bC_ aa.out 3).trans rfl; have ef : w5.cell? ⟨av, 4, none⟩ = some (.slice aB ag.length aC) := (bC_ aa.out 4).trans rfl; have eg : w5.cell? ⟨av, 5, none⟩ = some (.slice aD ai.length aE) := (bC_ aa.out 5).trans rfl; have eh : w5.cell? ⟨av, 6, none⟩ = some (.slice ax af.length ay) := (bC_ aa.out 6).trans rfl; have ei : w5.cell? ⟨av, 7, none⟩ = some (.string ah) := (bC_ aa.out 7).trans rfl; have ej := bF_ aa.out 0; have ek := bF_ aa.out 1; have el := bF_ aa.out 2; have em := bF_ aa.out 3; have en := bF_ aa.out 4; have eo := bF_ aa.out 5; have ep := bF_ aa.out 6; have eq := bF_ aa.out 7) | ((with_reducible refine gate_callee (f := 42) rfl ?_); refine goesL_ (some 13) rfl rfl Try.func42 (by kernel_rfl) rfl #[.agg #[.string ac, .slice az ab.length aA, .string ad, .string ae, .slice aB ag.length aC, .slice aD ai.length aE, .slice ax af.length ay, .string ah]] rfl Qm ?_; (with_reducible refine (r6_small.calls k ac _ _ ab ad ae _ _ ag _ _ ai _ _ af ah true _ ?side1 ?side2 ?side3 ?side4 ?side5 ?side6 ?side7 ?side8 A2.out).mono ?_); (case side1 => exact Qc (cB_ ev.out HB.out)); (case side2 => exact fq.out); (case side3 => exact Qc (cB_ fr.out HB.out)); (case side4 => exact fs.out); (case side5 => exact Qc (cB_ ft.out HB.out)); (case side6 => exact fu.out); (case side7 => exact Qc (cB_ d7.out HB.out)); (case side8 => exact d8.out); rintro e w7 ⟨rfl, hb⟩; refine ⟨_, rfl, ?_⟩; have d9 := Aside0.mk (blk_below (g := av) (o := .cells #[.string ac, .slice az ab.length aA, .string ad, .string ae, .slice aB ag.length aC, .slice aD ai.length aE, .slice ax af.length ay, .string ah] 34 (0, 0)) (Qb aa.out) hb); have ea := Aside0.mk (wT_ (Qv HB.out am.out) hb); clear aa; clear HB; have aa := d9; have HB := ea; clear d9 ea; (try clear hb); (try clear hb2); (try clear hk); (try clear hi)))
  (try simp only [Act.put, List.setIfInBounds_toArray, List.set_cons_zero, List.set_cons_succ])
  go_cut [4] (fun v4 wc => ∃ (kq : Nat) (gC : Bool), v4 = .bool gC ∧ Aside0 (r6_Right.j0 kq gC ac ab ad ae ag ai af ah = some r) ∧ Aside0 (kq ≤ k) ∧ Aside0 (wc.heap[av]? = some (.cells #[.string ac, (.slice az ab.length aA), .string ad, .string ae, (.slice aB ag.length aC), (.slice aD ai.length aE), (.slice ax af.length ay), .string ah] 34 (0, 0))) ∧ Aside0 (Below w.heap.size w wc))
  case first =>
   have H := jb.out
   clear jb
   by_cases c8 : ac.toList = ([] : List UInt8)
   ·rw [if_pos c8] at H
    have eu : (ac.toList == ([] : List UInt8)) = true := beq_iff_eq.mpr c8
    have gH : ac.toList.isEmpty = true := List.isEmpty_iff.2 c8
    have gS : (!ac.toList.isEmpty) = false := by rw [gH]; rfl
    have fd : (ac.toList != ([] : List UInt8)) = false := bne_eq_false_iff_eq.mpr c8
    clear c8
    (first | rw [gS] | rw [gH] | rw [eu] | rw [fd] | (simp only [i64_w, i32_w]; rw [eu]) | skip)
    by_cases c9 : (ab.length : Int) = 0
    ·rw [if_pos c9] at H
     have gD : ((ab.length : Int) == 0) = true := beq_iff_eq.mpr c9
     have gE : ((ab.length : Int) != 0) = false := bne_eq_false_iff_eq.mpr c9
     clear c9
     by_cases c10 : ad.toList = ([] : List UInt8)
     ·rw [if_pos c10] at H
      have ew : (ad.toList == ([] : List UInt8)) = true := beq_iff_eq.mpr c10
      have gI : ad.toList.isEmpty = true := List.isEmpty_iff.2 c10
      have gX : (!ad.toList.isEmpty) = false := by rw [gI]; rfl
      have ex : (ad.toList != ([] : List UInt8)) = false := bne_eq_false_iff_eq.mpr c10
      clear c10
      by_cases c11 : ae.toList = ([] : List UInt8)
      ·rw [if_pos c11] at H
       have ey : (ae.toList == ([] : List UInt8)) = true := beq_iff_eq.mpr c11
       have gJ : ae.toList.isEmpty = true := List.isEmpty_iff.2 c11
       have gY : (!ae.toList.isEmpty) = false := by rw [gJ]; rfl
       have ez : (ae.toList != ([] : List UInt8)) = false := bne_eq_false_iff_eq.mpr c11
       clear c11
       by_cases c12 : (ag.length : Int) = 0
       ·rw [if_pos c12] at H
        have eA : ((ag.length : Int) == 0) = true := beq_iff_eq.mpr c12
        have eB : ((ag.length : Int) != 0) = false := bne_eq_false_iff_eq.mpr c12
        clear c12
        have H' := Aside0.mk H
        clear H
        obtain ⟨aF, aG, aH, aI, aJ, aK, aL, aM, aN, aO, aP, aQ, aR, aS, aT, aU⟩ := c8_16 aa.out
        go_wp2
        go_meet
        case rel => exact ⟨_, (((ai.length : Int) == 0)), Qs, H', ⟨by first | omega | exact Nat.le_refl _⟩, ⟨Qb aa.out⟩, ⟨Qv HB.out am.out⟩⟩
       ·rw [if_neg c12] at H
        have eA : ((ag.length : Int) == 0) = false := beq_eq_false_iff_ne.mpr c12
        have eB : ((ag.length : Int) != 0) = true := bne_iff_ne.mpr c12
        have fe : ¬ (ag = []) := fun h_ => c12 (by rw [h_]; rfl)
        have H' := Aside0.mk H
        clear H
        obtain ⟨aV, aW, aX, aY, aZ, a0, a1, a2, a3, a4, a5, a6, a7, a8, a9, ba⟩ := c8_16 aa.out
        go_wp2
        go_meet
        case rel => exact ⟨_, (false), Qs, H', ⟨by first | omega | exact Nat.le_refl _⟩, ⟨Qb aa.out⟩, ⟨Qv HB.out am.out⟩⟩
      ·rw [if_neg c11] at H
       have ey : (ae.toList == ([] : List UInt8)) = false := beq_eq_false_iff_ne.mpr c11
       have gJ : ae.toList.isEmpty = false := List.isEmpty_eq_false_iff.2 c11
       have gY : (!ae.toList.isEmpty) = true := by rw [gJ]; rfl
       have ez : (ae.toList != ([] : List UInt8)) = true := bne_iff_ne.mpr c11
       have H' := Aside0.mk H
       clear H
       obtain ⟨bb, bc, bd, be, bf, bg, bh, bi, bj, bk, bm, bn, bo, bp, bq, br⟩ := c8_16 aa.out
       go_wp2
       go_meet
       case rel => exact ⟨_, (false), Qs, H', ⟨by first | omega | exact Nat.le_refl _⟩, ⟨Qb aa.out⟩, ⟨Qv HB.out am.out⟩⟩
     ·rw [if_neg c10] at H
      have ew : (ad.toList == ([] : List UInt8)) = false := beq_eq_false_iff_ne.mpr c10
      have gI : ad.toList.isEmpty = false := List.isEmpty_eq_false_iff.2 c10
      have gX : (!ad.toList.isEmpty) = true := by rw [gI]; rfl
      have ex : (ad.toList != ([] : List UInt8)) = true := bne_iff_ne.mpr c10
      have H' := Aside0.mk H
      clear H
      obtain ⟨bs, bu, bv, bw, bx, bz, bA, bB, bC, bD, bE, bF, bG, bH, bI, bJ⟩ := c8_16 aa.out
      go_wp2
      go_meet
      case rel => exact ⟨_, (false), Qs, H', ⟨by first | omega | exact Nat.le_refl _⟩, ⟨Qb aa.out⟩, ⟨Qv HB.out am.out⟩⟩
    ·rw [if_neg c9] at H
     have gD : ((ab.length : Int) == 0) = false := beq_eq_false_iff_ne.mpr c9
     have gE : ((ab.length : Int) != 0) = true := bne_iff_ne.mpr c9
     have gK : ¬ (ab = []) := fun h_ => c9 (by rw [h_]; rfl)
     have H' := Aside0.mk H
     clear H
     obtain ⟨bK, bL, bM, bN, bO, bP, bQ, bR, bS, bT, bU, bV, bW, bX, bY, bZ⟩ := c8_16 aa.out
     go_wp2
     go_meet
     case rel => exact ⟨_, (false), Qs, H', ⟨by first | omega | exact Nat.le_refl _⟩, ⟨Qb aa.out⟩, ⟨Qv HB.out am.out⟩⟩
   ·rw [if_neg c8] at H
    have eu : (ac.toList == ([] : List UInt8)) = false := beq_eq_false_iff_ne.mpr c8
    have gH : ac.toList.isEmpty = false := List.isEmpty_eq_false_iff.2 c8
    have gS : (!ac.toList.isEmpty) = true := by rw [gH]; rfl
    have fd : (ac.toList != ([] : List UInt8)) = true := bne_iff_ne.mpr c8
    (first | rw [gS] | rw [gH] | rw [eu] | rw [fd] | (simp only [i64_w, i32_w]; rw [eu]) | skip)
    have H' := Aside0.mk H
    clear H
    obtain ⟨b0, b1, b2, b3, b4, b5, b6, b7, b8, b9, ca, cb, cc, cd, ce, cf⟩ := c8_16 aa.out
    go_wp2
    go_meet
    case rel => exact ⟨_, (false), Qs, H', ⟨by first | omega | exact Nat.le_refl _⟩, ⟨Qb aa.out⟩, ⟨Qv HB.out am.out⟩⟩
  case rest =>
   clear jb
   try clear c1; try clear p2; try clear c3; try clear c4; try clear c8; try clear eu; try clear fd; try clear c9; try clear gD; try clear gE; try clear gK; try clear c10; try clear ew; try clear ex; try clear c11; try clear ey; try clear ez; try clear c12; try clear eA; try clear eB; try clear fe; try clear c16
   try clear aF aG aH aI aJ aK aL aM; try clear aV aW aX aY aZ a0 a1 a2; try clear bb bc bd be bf bg bh bi; try clear bs bu bv bw bx bz bA bB; try clear bK bL bM bN bO bP bQ bR; try clear b0 b1 b2 b3 b4 b5 b6 b7; try clear eb ec ed ee ef eg eh ei; try clear aN aO aP aQ aR aS aT aU; try clear a3 a4 a5 a6 a7 a8 a9 ba; try clear bj bk bm bn bo bp bq br; try clear bC bD bE bF bG bH bI bJ; try clear bS bT bU bV bW bX bY bZ; try clear b8 b9 ca cb cc cd ce cf; try clear ej ek el em en eo ep eq
   obtain ⟨kq, gC, rfl, HA, HJ3, aa, HB⟩ := hcut
   cases kq with
   | zero => exact absurd HA.out (by simp [r6_Right.j0])
   | succ kj3 =>
    have H := HA.out
    clear HA
    simp only [r6_Right.j0] at H
    by_cases c19 : ah.toList = ([] : List UInt8)
    ·rw [if_pos c19] at H
     have ff : (ah.toList == ([] : List UInt8)) = true := beq_iff_eq.mpr c19
     have gL : ah.toList.isEmpty = true := List.isEmpty_iff.2 c19
     have gZ : (!ah.toList.isEmpty) = false := by rw [gL]; rfl
     have fg : (ah.toList != ([] : List UInt8)) = false := bne_eq_false_iff_eq.mpr c19
     clear c19
     by_cases c20 : ac.toList = ([] : List UInt8)
     ·rw [if_pos c20] at H
      have fh : (ac.toList == ([] : List UInt8)) = true := beq_iff_eq.mpr c20
      have gM : ac.toList.isEmpty = true := List.isEmpty_iff.2 c20
      have g0 : (!ac.toList.isEmpty) = false := by rw [gM]; rfl
      have fi : (ac.toList != ([] : List UInt8)) = false := bne_eq_false_iff_eq.mpr c20
      clear c20
      replace H := Option.bind_eq_some_iff.mp H
      obtain ⟨fo, g1, H⟩ := H
      replace H : (if gC = true then (if (af.length : Int) > 0 then (some fo) else (some false)) else (some false)) = some r := H
      have jc := Aside0.mk g1
      clear g1
      by_cases c22 : gC = true
      ·subst c22
       have H1 : (if (af.length : Int) > 0 then (some fo) else (some false)) = some r := by rw [if_pos rfl] at H; exact H
       clear H
       have H := H1
       clear H1
       by_cases c23 : (af.length : Int) > 0
       ·rw [if_pos c23] at H
        have fj : decide (0 < (af.length : Int)) = true := decide_eq_true c23
        have fk : decide (0 < af.length) = true := decide_eq_true (by omega)
        clear c23
        obtain rfl := Option.some.inj H
        obtain ⟨ck, cl, cm, cn, co, cp, cq, cr, ct, cu, cv, cw, cx, cy, cz, cA⟩ := c8_16 aa.out
        go_wp2_with (first | ((with_reducible refine gate_callee (f := 44) rfl ?_); refine goesL_ (some 68) rfl rfl Try.func44 (by kernel_rfl) rfl #[.slice ax af.length ay, .int .i64 1] rfl Qm ?_; (with_reducible refine (r6_subs.calls kj3 _ _ af 1 fo _ ?side1 ?side2 jc.out).mono ?_); (case side1 => exact Qc (cB_ d7.out HB.out)); (case side2 => exact d8.out); rintro e w' ⟨rfl, ⟨nd, rfl⟩⟩; refine ⟨_, rfl, ?_⟩))
        go_ret
        exact ⟨Qe, Qv HB.out am.out⟩
       ·rw [if_neg c23] at H
        have fj : decide (0 < (af.length : Int)) = false := decide_eq_false c23
        have fk : decide (0 < af.length) = false := decide_eq_false (by omega)
        clear c23
        obtain rfl := Option.some.inj H
        obtain ⟨cB, cC, cD, cE, cF, cG, cH, cI, cJ, cK, cM, cN, cO, cP, cQ, cS⟩ := c8_16 aa.out
        go_wp2_with (first | ((with_reducible refine gate_callee (f := 44) rfl ?_); refine goesL_ (some 68) rfl rfl Try.func44 (by kernel_rfl) rfl #[.slice ax af.length ay, .int .i64 1] rfl Qm ?_; (with_reducible refine (r6_subs.calls kj3 _ _ af 1 fo _ ?side1 ?side2 jc.out).mono ?_); (case side1 => exact Qc (cB_ d7.out HB.out)); (case side2 => exact d8.out); rintro e w' ⟨rfl, ⟨nd, rfl⟩⟩; refine ⟨_, rfl, ?_⟩))
        go_ret
        exact ⟨Qe, Qv HB.out am.out⟩
      ·replace c22 := Bool.eq_false_iff.mpr c22
       subst c22
       have H1 : (some false) = some r := by rw [if_neg (show ¬ (false = true) by decide)] at H; exact H
       clear H
       have H := H1
       clear H1
       obtain rfl := Option.some.inj H
       obtain ⟨cU, cV, cW, cX, cY, cZ, c0, da, db, dc, dd, de, df, dg, dh, di⟩ := c8_16 aa.out
       go_wp2_with (first | ((with_reducible refine gate_callee (f := 44) rfl ?_); refine goesL_ (some 68) rfl rfl Try.func44 (by kernel_rfl) rfl #[.slice ax af.length ay, .int .i64 1] rfl Qm ?_; (with_reducible refine (r6_subs.calls kj3 _ _ af 1 fo _ ?side1 ?side2 jc.out).mono ?_); (case side1 => exact Qc (cB_ d7.out HB.out)); (case side2 => exact d8.out); rintro e w' ⟨rfl, ⟨nd, rfl⟩⟩; refine ⟨_, rfl, ?_⟩))
       go_ret
       exact ⟨Qe, Qv HB.out am.out⟩
     ·rw [if_neg c20] at H
      have fh : (ac.toList == ([] : List UInt8)) = false := beq_eq_false_iff_ne.mpr c20
      have gM : ac.toList.isEmpty = false := List.isEmpty_eq_false_iff.2 c20
      have g0 : (!ac.toList.isEmpty) = true := by rw [gM]; rfl
      have fi : (ac.toList != ([] : List UInt8)) = true := bne_iff_ne.mpr c20
      replace H := Option.bind_eq_some_iff.mp H
      obtain ⟨cj, g2, H⟩ := H
      replace H : (if ad.toList = ([] : List UInt8) then (r6_Right.j1 kj3 cj true ac ab ad ae ag ai af ah) else ((r6_Script.f kj3 ad).bind fun fp => (r6_Right.j1 kj3 cj fp ac ab ad ae ag ai af ah))) = some r := H
      have jh := Aside0.mk g2
      clear g2
      have gT := Aside0.mk H
      clear H
      obtain ⟨dj, dk, dl, dm, dn, dp, dq, dr, ds, dt, du, dv, dw, dx, dy, dz⟩ := c8_16 aa.out
      go_upto_region 11 with (first | ((with_reducible refine gate_callee (f := 45) rfl ?_); refine goesL_ (some 81) rfl rfl Try.func45 (by kernel_rfl) rfl #[.string ac] rfl Qm ?_; (with_reducible refine (r6_Language.calls kj3 ac cj _ jh.out).mono ?_); rintro e w' ⟨rfl, ⟨nd, rfl⟩⟩; refine ⟨_, rfl, ?_⟩))
      (try simp only [Act.put, List.setIfInBounds_toArray, List.set_cons_zero, List.set_cons_succ])
      go_cut [7] (fun v7 wc => ∃ (kq : Nat) (ch : Bool), v7 = .bool ch ∧ Aside0 (r6_Right.j1 kq cj ch ac ab ad ae ag ai af ah = some r) ∧ Aside0 (kq ≤ kj3) ∧ Aside0 (wc.heap[av]? = some (.cells #[.string ac, (.slice az ab.length aA), .string ad, .string ae, (.slice aB ag.length aC), (.slice aD ai.length aE), (.slice ax af.length ay), .string ah] 34 (0, 0))) ∧ Aside0 (Below w.heap.size w wc))
      case first =>
       have H := gT.out
       clear gT
       by_cases c30 : ad.toList = ([] : List UInt8)
       ·rw [if_pos c30] at H
        have cg : (ad.toList == ([] : List UInt8)) = true := beq_iff_eq.mpr c30
        have fl : ad.toList.isEmpty = true := List.isEmpty_iff.2 c30
        have gN : (!ad.toList.isEmpty) = false := by rw [fl]; rfl
        have er : (ad.toList != ([] : List UInt8)) = false := bne_eq_false_iff_eq.mpr c30
        clear c30
        (first | rw [gN] | rw [fl] | rw [cg] | rw [er] | (simp only [i64_w, i32_w]; rw [cg]) | skip)
        have H' := Aside0.mk H
        clear H
        obtain ⟨dA, dB, dC, dD, dE, dF, dG, dH, dI, dJ, dK, dL, dM, dN, dO, dP⟩ := c8_16 aa.out
        go_wp2
        go_meet
        case rel => exact ⟨_, (true), Qs, H', ⟨by have := HJ3.out; first | omega | exact Nat.le_refl _⟩, ⟨Qb aa.out⟩, ⟨Qv HB.out am.out⟩⟩
       ·rw [if_neg c30] at H
        have cg : (ad.toList == ([] : List UInt8)) = false := beq_eq_false_iff_ne.mpr c30
        have fl : ad.toList.isEmpty = false := List.isEmpty_eq_false_iff.2 c30
        have gN : (!ad.toList.isEmpty) = true := by rw [fl]; rfl
        have er : (ad.toList != ([] : List UInt8)) = true := bne_iff_ne.mpr c30
        (first | rw [gN] | rw [fl] | rw [cg] | rw [er] | (simp only [i64_w, i32_w]; rw [cg]) | skip)
        replace H := Option.bind_eq_some_iff.mp H
        obtain ⟨fp, g3, H⟩ := H
        replace H : (r6_Right.j1 kj3 cj fp ac ab ad ae ag ai af ah) = some r := H
        have ji := Aside0.mk g3
        clear g3
        have H' := Aside0.mk H
        clear H
        obtain ⟨dQ, dR, dS, dT, dU, dV, dW, dX, dY, dZ, d0, d1, d2, d3, d4, d5⟩ := c8_16 aa.out
        go_wp2_with (first | (go_at_call 46; (with_reducible refine (r6_Script.calls kj3 ad fp _ ji.out).mono ?_); rintro e w' ⟨rfl, ⟨nd, rfl⟩⟩))
        go_meet
        case rel => exact ⟨_, (fp), Qs, H', ⟨by have := HJ3.out; first | omega | exact Nat.le_refl _⟩, ⟨Qb aa.out⟩, ⟨Qv HB.out am.out⟩⟩
      case rest =>
       clear gT
       try clear c1; try clear c2; try clear p2; try clear c3; try clear c4; try clear c8; try clear eu; try clear fd; try clear c9; try clear gD; try clear gE; try clear gK; try clear c10; try clear ew; try clear ex; try clear c11; try clear ey; try clear ez; try clear c12; try clear eA; try clear eB; try clear fe; try clear c16; try clear c19; try clear ff; try clear fg; try clear c20; try clear fh; try clear fi; try clear c22; try clear c23; try clear fj; try clear fk; try clear c30; try clear cg; try clear er
       try clear aF aG aH aI aJ aK aL aM; try clear aV aW aX aY aZ a0 a1 a2; try clear bb bc bd be bf bg bh bi; try clear bs bu bv bw bx bz bA bB; try clear bK bL bM bN bO bP bQ bR; try clear b0 b1 b2 b3 b4 b5 b6 b7; try clear ck cl cm cn co cp cq cr; try clear cB cC cD cE cF cG cH cI; try clear cU cV cW cX cY cZ c0 da; try clear dj dk dl dm dn dp dq dr; try clear dA dB dC dD dE dF dG dH; try clear dQ dR dS dT dU dV dW dX; try clear eb ec ed ee ef eg eh ei; try clear aN aO aP aQ aR aS aT aU; try clear a3 a4 a5 a6 a7 a8 a9 ba; try clear bj bk bm bn bo bp bq br; try clear bC bD bE bF bG bH bI bJ; try clear bS bT bU bV bW bX bY bZ; try clear b8 b9 ca cb cc cd ce cf; try clear ct cu cv cw cx cy cz cA; try clear cJ cK cM cN cO cP cQ cS; try clear db dc dd de df dg dh di; try clear ds dt du dv dw dx dy dz; try clear dI dJ dK dL dM dN dO dP; try clear dY dZ d0 d1 d2 d3 d4 d5; try clear ej ek el em en eo ep eq
       try clear p2
       obtain ⟨kq, ch, rfl, HA, HJ27, aa, HB⟩ := hcut
       cases kq with
       | zero => exact absurd HA.out (by simp [r6_Right.j1])
       | succ kj27 =>
        have H := HA.out
        clear HA
        simp only [r6_Right.j1] at H
        have gU := Aside0.mk H
        clear H
        go_upto_region 12 with (fail)
        go_cut [8] (fun v8 wc => ∃ (kq : Nat) (es : Bool), v8 = .bool es ∧ Aside0 (r6_Right.j2 kq cj ch es ac ab ad ae ag ai af ah = some r) ∧ Aside0 (kq ≤ kj27) ∧ Aside0 (wc.heap[av]? = some (.cells #[.string ac, (.slice az ab.length aA), .string ad, .string ae, (.slice aB ag.length aC), (.slice aD ai.length aE), (.slice ax af.length ay), .string ah] 34 (0, 0))) ∧ Aside0 (Below w.heap.size w wc))
        case first =>
         have H := gU.out
         clear gU
         by_cases c35 : ae.toList = ([] : List UInt8)
         ·rw [if_pos c35] at H
          have ci : (ae.toList == ([] : List UInt8)) = true := beq_iff_eq.mpr c35
          have fm : ae.toList.isEmpty = true := List.isEmpty_iff.2 c35
          have gO : (!ae.toList.isEmpty) = false := by rw [fm]; rfl
          have eC : (ae.toList != ([] : List UInt8)) = false := bne_eq_false_iff_eq.mpr c35
          clear c35
          (first | rw [gO] | rw [fm] | rw [ci] | rw [eC] | (simp only [i64_w, i32_w]; rw [ci]) | skip)
          have H' := Aside0.mk H
          clear H
          obtain ⟨eE, eF, eG, eH, eI, eJ, eK, eL, eM, eN, eO, eP, eQ, eR, eS, eT⟩ := c8_16 aa.out
          go_wp2
          go_meet
          case rel => exact ⟨_, (true), Qs, H', ⟨by have := HJ3.out; have := HJ27.out; first | omega | exact Nat.le_refl _⟩, ⟨Qb aa.out⟩, ⟨Qv HB.out am.out⟩⟩
         ·rw [if_neg c35] at H
          have ci : (ae.toList == ([] : List UInt8)) = false := beq_eq_false_iff_ne.mpr c35
          have fm : ae.toList.isEmpty = false := List.isEmpty_eq_false_iff.2 c35
          have gO : (!ae.toList.isEmpty) = true := by rw [fm]; rfl
          have eC : (ae.toList != ([] : List UInt8)) = true := bne_iff_ne.mpr c35
          (first | rw [gO] | rw [fm] | rw [ci] | rw [eC] | (simp only [i64_w, i32_w]; rw [ci]) | skip)
          replace H := Option.bind_eq_some_iff.mp H
          obtain ⟨gF, g4, H⟩ := H
          replace H : (r6_Right.j2 kj27 cj ch gF ac ab ad ae ag ai af ah) = some r := H
          have jj := Aside0.mk g4
          clear g4
          have H' := Aside0.mk H
          clear H
          obtain ⟨eU, eV, eW, eX, eY, eZ, e0, e1, e2, e3, e4, e5, e6, e7, e8, e9⟩ := c8_16 aa.out
          go_wp2_with (first | (go_at_call 47; (with_reducible refine (r6_Region.calls kj27 ae gF _ jj.out).mono ?_); rintro e w' ⟨rfl, ⟨nd, rfl⟩⟩))
          go_meet
          case rel => exact ⟨_, (gF), Qs, H', ⟨by have := HJ3.out; have := HJ27.out; first | omega | exact Nat.le_refl _⟩, ⟨Qb aa.out⟩, ⟨Qv HB.out am.out⟩⟩
        case rest =>
         clear gU
         try clear c1; try clear c2; try clear p2; try clear c3; try clear c4; try clear c8; try clear eu; try clear fd; try clear c9; try clear gD; try clear gE; try clear gK; try clear c10; try clear ew; try clear ex; try clear c11; try clear ey; try clear ez; try clear c12; try clear eA; try clear eB; try clear fe; try clear c16; try clear c19; try clear ff; try clear fg; try clear c20; try clear fh; try clear fi; try clear c22; try clear c23; try clear fj; try clear fk; try clear c30; try clear cg; try clear er; try clear c35; try clear ci; try clear eC
         try clear aF aG aH aI aJ aK aL aM; try clear aV aW aX aY aZ a0 a1 a2; try clear bb bc bd be bf bg bh bi; try clear bs bu bv bw bx bz bA bB; try clear bK bL bM bN bO bP bQ bR; try clear b0 b1 b2 b3 b4 b5 b6 b7; try clear ck cl cm cn co cp cq cr; try clear cB cC cD cE cF cG cH cI; try clear cU cV cW cX cY cZ c0 da; try clear dj dk dl dm dn dp dq dr; try clear dA dB dC dD dE dF dG dH; try clear dQ dR dS dT dU dV dW dX; try clear eE eF eG eH eI eJ eK eL; try clear eU eV eW eX eY eZ e0 e1; try clear eb ec ed ee ef eg eh ei; try clear aN aO aP aQ aR aS aT aU; try clear a3 a4 a5 a6 a7 a8 a9 ba; try clear bj bk bm bn bo bp bq br; try clear bC bD bE bF bG bH bI bJ; try clear bS bT bU bV bW bX bY bZ; try clear b8 b9 ca cb cc cd ce cf; try clear ct cu cv cw cx cy cz cA; try clear cJ cK cM cN cO cP cQ cS; try clear db dc dd de df dg dh di; try clear ds dt du dv dw dx dy dz; try clear dI dJ dK dL dM dN dO dP; try clear dY dZ d0 d1 d2 d3 d4 d5; try clear eM eN eO eP eQ eR eS eT; try clear e2 e3 e4 e5 e6 e7 e8 e9; try clear ej ek el em en eo ep eq
         try clear p2
         obtain ⟨kq, es, rfl, HA, HJ33, aa, HB⟩ := hcut
         cases kq with
         | zero => exact absurd HA.out (by simp [r6_Right.j2])
         | succ kj33 =>
          have H := HA.out
          clear HA
          simp only [r6_Right.j2] at H
          replace H := Option.bind_eq_some_iff.mp H
          obtain ⟨fa, g5, H⟩ := H
          replace H : (if cj = true then (if ch = true then (if es = true then (if fa = true then (if (ab.length : Int) > 3 then (r6_Right.j3 kj33 true ac ab ad ae ag ai af ah) else (if (ab.length : Int) > 0 then (r6_Right.j3 kj33 (decide ((ac.size : Int) > 3)) ac ab ad ae ag ai af ah) else (r6_Right.j3 kj33 false ac ab ad ae ag ai af ah))) else (r6_Right.j3 kj33 true ac ab ad ae ag ai af ah)) else (r6_Right.j3 kj33 true ac ab ad ae ag ai af ah)) else (r6_Right.j3 kj33 true ac ab ad ae ag ai af ah)) else (r6_Right.j3 kj33 true ac ab ad ae ag ai af ah)) = some r := H
          have jk := Aside0.mk g5
          clear g5
          have gV := Aside0.mk H
          clear H
          obtain ⟨fv, fw, fx, fy, fz, fA, fB, fC, fD, fE, fF, fG, fH, fI, fJ, fK⟩ := c8_16 aa.out
          go_upto_region 14 with (first | ((with_reducible refine gate_callee (f := 48) rfl ?_); refine goesL_ (some 99) rfl rfl Try.func48 (by kernel_rfl) rfl #[.agg #[.string ac, .slice az ab.length aA, .string ad, .string ae, .slice aB ag.length aC, .slice aD ai.length aE, .slice ax af.length ay, .string ah]] rfl Qm ?_; (with_reducible refine (r6_rows.calls kj33 ac _ _ ab ad ae _ _ ag _ _ ai _ _ af ah fa _ ?side1 ?side2 ?side3 ?side4 ?side5 ?side6 ?side7 ?side8 jk.out).mono ?_); (case side1 => exact Qc (cB_ ev.out HB.out)); (case side2 => exact fq.out); (case side3 => exact Qc (cB_ fr.out HB.out)); (case side4 => exact fs.out); (case side5 => exact Qc (cB_ ft.out HB.out)); (case side6 => exact fu.out); (case side7 => exact Qc (cB_ d7.out HB.out)); (case side8 => exact d8.out); rintro e w42 ⟨rfl, hb⟩; refine ⟨_, rfl, ?_⟩; have d9 := Aside0.mk (blk_below (g := av) (o := .cells #[.string ac, .slice az ab.length aA, .string ad, .string ae, .slice aB ag.length aC, .slice aD ai.length aE, .slice ax af.length ay, .string ah] 34 (0, 0)) (Qb aa.out) hb); have ea := Aside0.mk (wT_ (Qv HB.out am.out) hb); clear aa; clear HB; have aa := d9; have HB := ea; clear d9 ea; (try clear hb); (try clear hb2); (try clear hk); (try clear hi)))
          (try simp only [Act.put, List.setIfInBounds_toArray, List.set_cons_zero, List.set_cons_succ])
          go_cut [131] (fun v131 wc => ∃ (kq : Nat) (d6 : Bool), v131 = .bool d6 ∧ Aside0 (r6_Right.j3 kq d6 ac ab ad ae ag ai af ah = some r) ∧ Aside0 (kq ≤ kj33) ∧ Aside0 (wc.heap[av]? = some (.cells #[.string ac, (.slice az ab.length aA), .string ad, .string ae, (.slice aB ag.length aC), (.slice aD ai.length aE), (.slice ax af.length ay), .string ah] 34 (0, 0))) ∧ Aside0 (Below w.heap.size w wc))
          case first =>
           have H := gV.out
           clear gV
           by_cases c43 : cj = true
           ·subst c43
            have H1 : (if ch = true then (if es = true then (if fa = true then (if (ab.length : Int) > 3 then (r6_Right.j3 kj33 true ac ab ad ae ag ai af ah) else (if (ab.length : Int) > 0 then (r6_Right.j3 kj33 (decide ((ac.size : Int) > 3)) ac ab ad ae ag ai af ah) else (r6_Right.j3 kj33 false ac ab ad ae ag ai af ah))) else (r6_Right.j3 kj33 true ac ab ad ae ag ai af ah)) else (r6_Right.j3 kj33 true ac ab ad ae ag ai af ah)) else (r6_Right.j3 kj33 true ac ab ad ae ag ai af ah)) = some r := by rw [if_pos rfl] at H; exact H
            clear H
            have H := H1
            clear H1
            by_cases c44 : ch = true
            ·subst c44
             have H1 : (if es = true then (if fa = true then (if (ab.length : Int) > 3 then (r6_Right.j3 kj33 true ac ab ad ae ag ai af ah) else (if (ab.length : Int) > 0 then (r6_Right.j3 kj33 (decide ((ac.size : Int) > 3)) ac ab ad ae ag ai af ah) else (r6_Right.j3 kj33 false ac ab ad ae ag ai af ah))) else (r6_Right.j3 kj33 true ac ab ad ae ag ai af ah)) else (r6_Right.j3 kj33 true ac ab ad ae ag ai af ah)) = some r := by rw [if_pos rfl] at H; exact H
             clear H
             have H := H1
             clear H1
             by_cases c45 : es = true
             ·subst c45
              have H1 : (if fa = true then (if (ab.length : Int) > 3 then (r6_Right.j3 kj33 true ac ab ad ae ag ai af ah) else (if (ab.length : Int) > 0 then (r6_Right.j3 kj33 (decide ((ac.size : Int) > 3)) ac ab ad ae ag ai af ah) else (r6_Right.j3 kj33 false ac ab ad ae ag ai af ah))) else (r6_Right.j3 kj33 true ac ab ad ae ag ai af ah)) = some r := by rw [if_pos rfl] at H; exact H
              clear H
              have H := H1
              clear H1
              by_cases c46 : fa = true
              ·subst c46
               have H1 : (if (ab.length : Int) > 3 then (r6_Right.j3 kj33 true ac ab ad ae ag ai af ah) else (if (ab.length : Int) > 0 then (r6_Right.j3 kj33 (decide ((ac.size : Int) > 3)) ac ab ad ae ag ai af ah) else (r6_Right.j3 kj33 false ac ab ad ae ag ai af ah))) = some r := by rw [if_pos rfl] at H; exact H
               clear H
               have H := H1
               clear H1
               by_cases c47 : (ab.length : Int) > 3
               ·rw [if_pos c47] at H
                have et : decide (3 < (ab.length : Int)) = true := decide_eq_true c47
                have fn : decide (3 < ab.length) = true := decide_eq_true (by omega)
                clear c47
                (first | rw [et] | rw [fn] | (simp only [i64_w, i32_w]; rw [et]) | skip)
                have H' := Aside0.mk H
                clear H
                obtain ⟨fL, fM, fN, fO, fP, fQ, fR, fS, fT, fU, fV, fW, fX, fY, fZ, f0⟩ := c8_16 aa.out
                go_wp2
                go_meet
                case rel => exact ⟨_, (true), Qs, H', ⟨by have := HJ3.out; have := HJ27.out; have := HJ33.out; first | omega | exact Nat.le_refl _⟩, ⟨Qb aa.out⟩, ⟨Qv HB.out am.out⟩⟩
               ·rw [if_neg c47] at H
                have et : decide (3 < (ab.length : Int)) = false := decide_eq_false c47
                have fn : decide (3 < ab.length) = false := decide_eq_false (by omega)
                clear c47
                (first | rw [et] | rw [fn] | (simp only [i64_w, i32_w]; rw [et]) | skip)
                by_cases c49 : (ab.length : Int) > 0
                ·rw [if_pos c49] at H
                 have gP : decide (0 < (ab.length : Int)) = true := decide_eq_true c49
                 have gQ : decide (0 < ab.length) = true := decide_eq_true (by omega)
                 clear c49
                 have H' := Aside0.mk H
                 clear H
                 obtain ⟨f1, f2, f3, f4, f5, f6, f7, f8, f9, ga, gb, gc, ge, gf, gg, gh⟩ := c8_16 aa.out
                 go_wp2
                 go_meet
                 case rel => exact ⟨_, (decide ((ac.size : Int) > 3)), Qs, H', ⟨by have := HJ3.out; have := HJ27.out; have := HJ33.out; first | omega | exact Nat.le_refl _⟩, ⟨Qb aa.out⟩, ⟨Qv HB.out am.out⟩⟩
                ·rw [if_neg c49] at H
                 have gP : decide (0 < (ab.length : Int)) = false := decide_eq_false c49
                 have gQ : decide (0 < ab.length) = false := decide_eq_false (by omega)
                 clear c49
                 have H' := Aside0.mk H
                 clear H
                 obtain ⟨gi, gj, gl, gm, gn, go, gp, gq, gr, gs, gt, gu, gv, gw, gx, gy⟩ := c8_16 aa.out
                 go_wp2
                 go_meet
                 case rel => exact ⟨_, (false), Qs, H', ⟨by have := HJ3.out; have := HJ27.out; have := HJ33.out; first | omega | exact Nat.le_refl _⟩, ⟨Qb aa.out⟩, ⟨Qv HB.out am.out⟩⟩
              ·replace c46 := Bool.eq_false_iff.mpr c46
               subst c46
               have H1 : (r6_Right.j3 kj33 true ac ab ad ae ag ai af ah) = some r := by rw [if_neg (show ¬ (false = true) by decide)] at H; exact H
               clear H
               have H := H1
               clear H1
               have H' := Aside0.mk H
               clear H
               go_wp2
               go_meet
               case rel => exact ⟨_, (true), Qs, H', ⟨by have := HJ3.out; have := HJ27.out; have := HJ33.out; first | omega | exact Nat.le_refl _⟩, ⟨Qb aa.out⟩, ⟨Qv HB.out am.out⟩⟩
             ·replace c45 := Bool.eq_false_iff.mpr c45
              subst c45
              have H1 : (r6_Right.j3 kj33 true ac ab ad ae ag ai af ah) = some r := by rw [if_neg (show ¬ (false = true) by decide)] at H; exact H
              clear H
              have H := H1
              clear H1
              have H' := Aside0.mk H
              clear H
              go_wp2
              go_meet
              case rel => exact ⟨_, (true), Qs, H', ⟨by have := HJ3.out; have := HJ27.out; have := HJ33.out; first | omega | exact Nat.le_refl _⟩, ⟨Qb aa.out⟩, ⟨Qv HB.out am.out⟩⟩
            ·replace c44 := Bool.eq_false_iff.mpr c44
             subst c44
             have H1 : (r6_Right.j3 kj33 true ac ab ad ae ag ai af ah) = some r := by rw [if_neg (show ¬ (false = true) by decide)] at H; exact H
             clear H
             have H := H1
             clear H1
             have H' := Aside0.mk H
             clear H
             go_wp2
             go_meet
             case rel => exact ⟨_, (true), Qs, H', ⟨by have := HJ3.out; have := HJ27.out; have := HJ33.out; first | omega | exact Nat.le_refl _⟩, ⟨Qb aa.out⟩, ⟨Qv HB.out am.out⟩⟩
           ·replace c43 := Bool.eq_false_iff.mpr c43
            subst c43
            have H1 : (r6_Right.j3 kj33 true ac ab ad ae ag ai af ah) = some r := by rw [if_neg (show ¬ (false = true) by decide)] at H; exact H
            clear H
            have H := H1
            clear H1
            have H' := Aside0.mk H
            clear H
            go_wp2
            go_meet
            case rel => exact ⟨_, (true), Qs, H', ⟨by have := HJ3.out; have := HJ27.out; have := HJ33.out; first | omega | exact Nat.le_refl _⟩, ⟨Qb aa.out⟩, ⟨Qv HB.out am.out⟩⟩
          case rest =>
           clear gV
           try clear c1; try clear c2; try clear p2; try clear c3; try clear c4; try clear c8; try clear eu; try clear fd; try clear c9; try clear gD; try clear gE; try clear gK; try clear c10; try clear ew; try clear ex; try clear c11; try clear ey; try clear ez; try clear c12; try clear eA; try clear eB; try clear fe; try clear c16; try clear c19; try clear ff; try clear fg; try clear c20; try clear fh; try clear fi; try clear c22; try clear c23; try clear fj; try clear fk; try clear c30; try clear cg; try clear er; try clear c35; try clear ci; try clear eC; try clear c43; try clear c44; try clear c45; try clear c46; try clear c47; try clear et; try clear fn; try clear c48; try clear c49; try clear gP; try clear gQ
           try clear aF aG aH aI aJ aK aL aM; try clear aV aW aX aY aZ a0 a1 a2; try clear bb bc bd be bf bg bh bi; try clear bs bu bv bw bx bz bA bB; try clear bK bL bM bN bO bP bQ bR; try clear b0 b1 b2 b3 b4 b5 b6 b7; try clear ck cl cm cn co cp cq cr; try clear cB cC cD cE cF cG cH cI; try clear cU cV cW cX cY cZ c0 da; try clear dj dk dl dm dn dp dq dr; try clear dA dB dC dD dE dF dG dH; try clear dQ dR dS dT dU dV dW dX; try clear eE eF eG eH eI eJ eK eL; try clear eU eV eW eX eY eZ e0 e1; try clear fv fw fx fy fz fA fB fC; try clear fL fM fN fO fP fQ fR fS; try clear f1 f2 f3 f4 f5 f6 f7 f8; try clear gi gj gl gm gn go gp gq; try clear eb ec ed ee ef eg eh ei; try clear aN aO aP aQ aR aS aT aU; try clear a3 a4 a5 a6 a7 a8 a9 ba; try clear bj bk bm bn bo bp bq br; try clear bC bD bE bF bG bH bI bJ; try clear bS bT bU bV bW bX bY bZ; try clear b8 b9 ca cb cc cd ce cf; try clear ct cu cv cw cx cy cz cA; try clear cJ cK cM cN cO cP cQ cS; try clear db dc dd de df dg dh di; try clear ds dt du dv dw dx dy dz; try clear dI dJ dK dL dM dN dO dP; try clear dY dZ d0 d1 d2 d3 d4 d5; try clear eM eN eO eP eQ eR eS eT; try clear e2 e3 e4 e5 e6 e7 e8 e9; try clear fD fE fF fG fH fI fJ fK; try clear fT fU fV fW fX fY fZ f0; try clear f9 ga gb gc ge gf gg gh; try clear gr gs gt gu gv gw gx gy; try clear ej ek el em en eo ep eq
           try clear p2
           obtain ⟨kq, d6, rfl, HA, HJ39, aa, HB⟩ := hcut
           cases kq with
           | zero => exact absurd HA.out (by simp [r6_Right.j3])
           | succ kj39 =>
            have H := HA.out
            clear HA
            simp only [r6_Right.j3] at H
            by_cases c52 : d6 = true
            ·subst c52
             have H1 : (some false) = some r := by rw [if_pos rfl] at H; exact H
             clear H
             have H := H1
             clear H1
             obtain rfl := Option.some.inj H
             go_wp2
             go_ret
             exact ⟨Qe, Qv HB.out am.out⟩
            ·replace c52 := Bool.eq_false_iff.mpr c52
             subst c52
             have H1 : (r6_Right.l0 kj39 0 ac ab ad ae ag ai af ah) = some r := by rw [if_neg (show ¬ (false = true) by decide)] at H; exact H
             clear H
             have H := H1
             clear H1
             have H' := Aside0.mk H
             clear H
             go_wp2
             go_loopg [10] kj39 (fun kq v10 w' => ∃ (aw : Int), v10 = .int .i64 aw ∧ Aside0 (r6_Right.l0 kq aw ac ab ad ae ag ai af ah = some r) ∧ Aside0 (kq ≤ kj39) ∧ Aside0 (w'.heap[av]? = some (.cells #[.string ac, (.slice az ab.length aA), .string ad, .string ae, (.slice aB ag.length aC), (.slice aD ai.length aE), (.slice ax af.length ay), .string ah] 34 (0, 0))) ∧ Aside0 (Below w.heap.size w w'))
             case atStart => exact ⟨(0), Qs, H', ⟨Nat.le_refl _⟩, ⟨Qb aa.out⟩, ⟨Qv HB.out am.out⟩⟩
             case round =>
              clear H'
              try clear c1; try clear c2; try clear p2; try clear c3; try clear c4; try clear c5; try clear c8; try clear eu; try clear fd; try clear c9; try clear gD; try clear gE; try clear gK; try clear c10; try clear ew; try clear ex; try clear c11; try clear ey; try clear ez; try clear c12; try clear eA; try clear eB; try clear fe; try clear c16; try clear c19; try clear ff; try clear fg; try clear c20; try clear fh; try clear fi; try clear c22; try clear c23; try clear fj; try clear fk; try clear c30; try clear cg; try clear er; try clear c35; try clear ci; try clear eC; try clear c43; try clear c44; try clear c45; try clear c46; try clear c47; try clear et; try clear fn; try clear c48; try clear c49; try clear gP; try clear gQ; try clear c52
              try clear aF aG aH aI aJ aK aL aM; try clear aV aW aX aY aZ a0 a1 a2; try clear bb bc bd be bf bg bh bi; try clear bs bu bv bw bx bz bA bB; try clear bK bL bM bN bO bP bQ bR; try clear b0 b1 b2 b3 b4 b5 b6 b7; try clear ck cl cm cn co cp cq cr; try clear cB cC cD cE cF cG cH cI; try clear cU cV cW cX cY cZ c0 da; try clear dj dk dl dm dn dp dq dr; try clear dA dB dC dD dE dF dG dH; try clear dQ dR dS dT dU dV dW dX; try clear eE eF eG eH eI eJ eK eL; try clear eU eV eW eX eY eZ e0 e1; try clear fv fw fx fy fz fA fB fC; try clear fL fM fN fO fP fQ fR fS; try clear f1 f2 f3 f4 f5 f6 f7 f8; try clear gi gj gl gm gn go gp gq; try clear eb ec ed ee ef eg eh ei; try clear aN aO aP aQ aR aS aT aU; try clear a3 a4 a5 a6 a7 a8 a9 ba; try clear bj bk bm bn bo bp bq br; try clear bC bD bE bF bG bH bI bJ; try clear bS bT bU bV bW bX bY bZ; try clear b8 b9 ca cb cc cd ce cf; try clear ct cu cv cw cx cy cz cA; try clear cJ cK cM cN cO cP cQ cS; try clear db dc dd de df dg dh di; try clear ds dt du dv dw dx dy dz; try clear dI dJ dK dL dM dN dO dP; try clear dY dZ d0 d1 d2 d3 d4 d5; try clear eM eN eO eP eQ eR eS eT; try clear e2 e3 e4 e5 e6 e7 e8 e9; try clear fD fE fF fG fH fI fJ fK; try clear fT fU fV fW fX fY fZ f0; try clear f9 ga gb gc ge gf gg gh; try clear gr gs gt gu gv gw gx gy; try clear ej ek el em en eo ep eq
              try clear p2
              obtain ⟨aw, rfl, HA, HK5, aa, HB⟩ := hrel
              cases gk with
              | zero => exact absurd HA.out (by simp [r6_Right.l0])
              | succ k5 =>
               have H := HA.out
               clear HA
               simp only [r6_Right.l0] at H
               by_cases c53 : aw < (ab.length : Int)
               ·rw [if_pos c53] at H
                have g6 : decide (aw < (ab.length : Int)) = true := decide_eq_true c53
                clear c53
                by_cases c54 : 0 ≤ aw
                ·rw [if_pos c54] at H
                 have je : decide (0 ≤ aw) = true := decide_eq_true c54
                 clear c54
                 replace H := Option.bind_eq_some_iff.mp H
                 obtain ⟨gR, g7, H⟩ := H
                 replace H : (if gR = true then (r6_Right.l0 k5 (wrap64 (aw + 1)) ac ab ad ae ag ai af ah) else (some false)) = some r := H
                 have jf := Aside0.mk g7
                 clear g7
                 by_cases c56 : gR = true
                 ·subst c56
                  have H1 : (r6_Right.l0 k5 (wrap64 (aw + 1)) ac ab ad ae ag ai af ah) = some r := by rw [if_pos rfl] at H; exact H
                  clear H
                  have H := H1
                  clear H1
                  have H' := Aside0.mk H
                  clear H
                  obtain ⟨hh, hj, hl, hm, hn, ho, hp, hq, hs, ht, hu, hv, hw, hx, hy, hz⟩ := c8_16 aa.out
                  have p374 : 0 ≤ (aw : Int) := of_decide_eq_true Qa
                  have q374 : aw < (ab.length : Int) := of_decide_eq_true Qa
                  obtain ⟨ad374, e374, hx374_0⟩ := Kd.at_string ev.out aw p374 q374
                  cases e374
                  replace hx374_0 := (HB.out.cell (World.block_lt_of_cell? w _ hx374_0)).trans hx374_0
                  replace p374 := eq_true p374
                  replace q374 := eq_true q374
                  go_wp2_with (first | ((with_reducible refine gate_callee (f := 49) rfl ?_); refine goesL_ (some 144) rfl rfl Try.func49 (by kernel_rfl) rfl #[.string (rdOf ByteArray.empty ab aw)] rfl Qm ?_; (with_reducible refine (r6_Extlang.calls k5 (rdOf ByteArray.empty ab aw) true _ jf.out).mono ?_); rintro e w' ⟨rfl, ⟨nd, rfl⟩⟩; refine ⟨_, rfl, ?_⟩))
                  go_roundg k5
                  case measure => have := HJ3.out; have := HJ27.out; have := HJ33.out; have := HJ39.out; have := HK5.out; omega
                  case rel => exact ⟨(wrap64 (aw + 1)), Qs, H', ⟨by have := HJ3.out; have := HJ27.out; have := HJ33.out; have := HJ39.out; have := HK5.out; omega⟩, ⟨Qb aa.out⟩, ⟨Qv HB.out am.out⟩⟩
                 ·replace c56 := Bool.eq_false_iff.mpr c56
                  subst c56
                  have H1 : (some false) = some r := by rw [if_neg (show ¬ (false = true) by decide)] at H; exact H
                  clear H
                  have H := H1
                  clear H1
                  obtain rfl := Option.some.inj H
                  obtain ⟨hA, hB, hC, hD, hE, hF, hG, hH, hI, hJ, hK, hL, hM, hN, hO, hP⟩ := c8_16 aa.out
                  have p374 : 0 ≤ (aw : Int) := of_decide_eq_true Qa
                  have q374 : aw < (ab.length : Int) := of_decide_eq_true Qa
                  obtain ⟨ad374, e374, hx374_0⟩ := Kd.at_string ev.out aw p374 q374
                  cases e374
                  replace hx374_0 := (HB.out.cell (World.block_lt_of_cell? w _ hx374_0)).trans hx374_0
                  replace p374 := eq_true p374
                  replace q374 := eq_true q374
                  go_wp2_with (first | ((with_reducible refine gate_callee (f := 49) rfl ?_); refine goesL_ (some 144) rfl rfl Try.func49 (by kernel_rfl) rfl #[.string (rdOf ByteArray.empty ab aw)] rfl Qm ?_; (with_reducible refine (r6_Extlang.calls k5 (rdOf ByteArray.empty ab aw) false _ jf.out).mono ?_); rintro e w' ⟨rfl, ⟨nd, rfl⟩⟩; refine ⟨_, rfl, ?_⟩))
                  go_ret
                  exact ⟨Qe, Qv HB.out am.out⟩
                ·rw [if_neg c54] at H
                 exact absurd H (by simp)
               ·rw [if_neg c53] at H
                have g6 : decide (aw < (ab.length : Int)) = false := decide_eq_false c53
                clear c53
                replace H := Option.bind_eq_some_iff.mp H
                obtain ⟨gA, g8, H⟩ := H
                replace H : ((r4_Join.f k5 gA).bind fun fb => ((r5_Find.f k5 fb).bind fun fc => (some (decide (fc < 0))))) = some r := H
                have jl := Aside0.mk g8
                clear g8
                replace H := Option.bind_eq_some_iff.mp H
                obtain ⟨fb, g9, H⟩ := H
                replace H : ((r5_Find.f k5 fb).bind fun fc => (some (decide (fc < 0)))) = some r := H
                have jm := Aside0.mk g9
                clear g9
                replace H := Option.bind_eq_some_iff.mp H
                obtain ⟨fc, ha, H⟩ := H
                replace H : (some (decide (fc < 0))) = some r := H
                have jn := Aside0.mk ha
                clear ha
                obtain rfl := Option.some.inj H
                obtain ⟨hQ, hR, hS, hT, hU, hV, hW, hX, hY, hZ, h0, h1, h2, h3, h4, h5⟩ := c8_16 aa.out
                go_wp2_with (first | ((with_reducible refine gate_callee (f := 22) rfl ?_); refine goesL_ (some 148) rfl rfl Try.func22 (by kernel_rfl) rfl #[.agg #[.string ac, .slice az ab.length aA, .string ad, .string ae, .slice aB ag.length aC, .slice aD ai.length aE, .slice ax af.length ay, .string ah]] rfl Qm ?_; (with_reducible refine (r6_Subtags.calls k5 ac _ _ ab ad ae _ _ ag _ _ ai _ _ af ah gA _ ?side1 ?side2 ?side3 ?side4 ?side5 ?side6 ?side7 ?side8 jl.out).mono ?_); (case side1 => exact Qc (cB_ ev.out HB.out)); (case side2 => exact fq.out); (case side3 => exact Qc (cB_ fr.out HB.out)); (case side4 => exact fs.out); (case side5 => exact Qc (cB_ ft.out HB.out)); (case side6 => exact fu.out); (case side7 => exact Qc (cB_ d7.out HB.out)); (case side8 => exact d8.out); rintro e w63 ⟨v377, rfl, ho0, hb⟩; refine ⟨_, rfl, ?_⟩; have d9 := Aside0.mk (Kd.R_lower ho0 (wZ_ (Qv HB.out am.out))); have ea := Aside0.mk (blk_below (g := av) (o := .cells #[.string ac, .slice az ab.length aA, .string ad, .string ae, .slice aB ag.length aC, .slice aD ai.length aE, .slice ax af.length ay, .string ah] 34 (0, 0)) (Qb aa.out) hb); have gG := Aside0.mk (wT_ (Qv HB.out am.out) hb); clear aa; clear HB; have eD := d9; have aa := ea; have HB := gG; clear d9 ea gG; (try clear hb); (try clear hb2); (try clear hk); (try clear hi); (try clear ho0); obtain ⟨Ao64, co64, eo64⟩ := Kd.R_slice eD.out; subst eo64) | ((with_reducible refine gate_callee (f := 21) rfl ?_); refine goesL_ (some 149) rfl rfl Try.func21 (by kernel_rfl) rfl #[.slice Ao64 gA.length co64] rfl Qm ?_; (with_reducible refine (r4_Join.calls k5 _ _ gA fb _ ?side1 ?side2 jm.out).mono ?_); (case side1 => repeat (first | exact (Kd.R_reads' eD.out).2.2 | (with_reducible refine cA_ ?_ _) | (with_reducible refine cN_ ?_ _) | (with_reducible refine cD_ ?_))); (case side2 => exact (Kd.R_reads' eD.out).2.1); rintro e w' ⟨rfl, ⟨nd, rfl⟩⟩; refine ⟨_, rfl, ?_⟩) | ((with_reducible refine gate_callee (f := 43) rfl ?_); refine goesL_ (some 150) rfl rfl Try.func43 (by kernel_rfl) rfl #[.string fb] rfl Qm ?_; (with_reducible refine (r5_Find.calls k5 fb fc _ jn.out).mono ?_); rintro e w65 ⟨rfl, hb⟩; refine ⟨_, rfl, ?_⟩; have d9 := Aside0.mk (Kd.R_below (Qr eD.out) hb); have ea := Aside0.mk (blk_below (g := av) (o := .cells #[.string ac, .slice az ab.length aA, .string ad, .string ae, .slice aB ag.length aC, .slice aD ai.length aE, .slice ax af.length ay, .string ah] 34 (0, 0)) (Qb aa.out) hb); have gG := Aside0.mk (wT_ (Qv HB.out am.out) hb); clear eD; clear aa; clear HB; have eD := d9; have aa := ea; have HB := gG; clear d9 ea gG; (try clear hb); (try clear hb2); (try clear hk); (try clear hi)))
                go_ret
                exact ⟨Qe, Qv HB.out am.out⟩
    ·rw [if_neg c19] at H
     have ff : (ah.toList == ([] : List UInt8)) = false := beq_eq_false_iff_ne.mpr c19
     have gL : ah.toList.isEmpty = false := List.isEmpty_eq_false_iff.2 c19
     have gZ : (!ah.toList.isEmpty) = true := by rw [gL]; rfl
     have fg : (ah.toList != ([] : List UInt8)) = true := bne_iff_ne.mpr c19
     by_cases c66 : gC = true
     ·subst c66
      have H1 : (if (af.length : Int) = 0 then ((r5_Find.f kj3 ah).bind fun gz => (some (decide (gz ≥ 0)))) else (some false)) = some r := by rw [if_pos rfl] at H; exact H
      clear H
      have H := H1
      clear H1
      by_cases c67 : (af.length : Int) = 0
      ·rw [if_pos c67] at H
       have hc : ((af.length : Int) == 0) = true := beq_iff_eq.mpr c67
       have he : ((af.length : Int) != 0) = false := bne_eq_false_iff_eq.mpr c67
       clear c67
       replace H := Option.bind_eq_some_iff.mp H
       obtain ⟨gz, hf, H⟩ := H
       replace H : (some (decide (gz ≥ 0))) = some r := H
       have jo := Aside0.mk hf
       clear hf
       obtain rfl := Option.some.inj H
       obtain ⟨h6, h7, h8, h9, ia, ib, ic, id, ie, ig, ih, ii, ij, ik, il, im⟩ := c8_16 aa.out
       go_wp2_with (first | (go_at_call 43; (with_reducible refine (r5_Find.calls kj3 ah gz _ jo.out).mono ?_); rintro e w70 ⟨rfl, hb⟩; have d9 := Aside0.mk (blk_below (g := av) (o := .cells #[.string ac, .slice az ab.length aA, .string ad, .string ae, .slice aB ag.length aC, .slice aD ai.length aE, .slice ax af.length ay, .string ah] 34 (0, 0)) (Qb aa.out) hb); have ea := Aside0.mk (wT_ (Qv HB.out am.out) hb); clear aa; clear HB; have aa := d9; have HB := ea; clear d9 ea; (try clear hb); (try clear hb2); (try clear hk); (try clear hi)))
       go_ret
       exact ⟨Qe, Qv HB.out am.out⟩
      ·rw [if_neg c67] at H
       have hc : ((af.length : Int) == 0) = false := beq_eq_false_iff_ne.mpr c67
       have he : ((af.length : Int) != 0) = true := bne_iff_ne.mpr c67
       have jg : ¬ (af = []) := fun h_ => c67 (by rw [h_]; rfl)
       obtain rfl := Option.some.inj H
       obtain ⟨io, ip, iq, ir, it, iu, iv, iw, ix, iy, iz, iA, iB, iC, iD, iE⟩ := c8_16 aa.out
       go_wp2
       go_ret
       exact ⟨Qe, Qv HB.out am.out⟩
     ·replace c66 := Bool.eq_false_iff.mpr c66
      subst c66
      have H1 : (some false) = some r := by rw [if_neg (show ¬ (false = true) by decide)] at H; exact H
      clear H
      have H := H1
      clear H1
      obtain rfl := Option.some.inj H
      obtain ⟨iF, iG, iH, iI, iJ, iK, iL, iM, iN, iO, iP, iQ, iR, iS, iT, iU⟩ := c8_16 aa.out
      go_wp2
      go_ret
      exact ⟨Qe, Qv HB.out am.out⟩
 ·replace c3 := Bool.eq_false_iff.mpr c3
  subst c3
  have H1 : (some false) = some r := by rw [if_neg (show ¬ (false = true) by decide)] at H; exact H
  clear H
  have H := H1
  clear H1
  obtain rfl := Option.some.inj H
  go_enter Try.func16, Try.ntmps16
  go_wp2_with (first | ((with_reducible refine gate_dst (N := 1) rfl ?_); (try (refine gate_guard (by rfl) ?_; dsimp only)); refine box_event ?hg (N := 1) ?hd (cs := #[.string ac, .slice az ab.length aA, .string ad, .string ae, .slice aB ag.length aC, .slice aD ai.length aE, .slice ax af.length ay, .string ah]) (t := 34) ?hr ?_; (case hd => rfl); (case hg => rfl); (case hr => first | (go_simp; done) | (go_simp; rfl)); intro av hg w73 hbox hb; have d9 := Aside0.mk (wT_ (Qw HB.out) hb); have ea := Aside0.mk (hbox); have gG := Aside0.mk ((by rw [hg]; exact (wZ_ (Qw HB.out)) : w.heap.size ≤ av)); have gW := Aside0.mk ((by rw [hg]; exact (wZ_ (Qw HB.out)) : w.heap.size ≤ av)); clear HB; have HB := d9; have aa := ea; have GW366 := gG; have am := gW; clear d9 ea gG gW; clear hb hbox hg; have iV : w73.cell? ⟨av, 0, none⟩ = some (.string ac) := (bC_ aa.out 0).trans rfl; have iW : w73.cell? ⟨av, 1, none⟩ = some (.slice az ab.length aA) := (bC_ aa.out 1).trans rfl; have iX : w73.cell? ⟨av, 2, none⟩ = some (.string ad) := (bC_ aa.out 2).trans rfl; have iY : w73.cell? ⟨av, 3, none⟩ = some (.string ae) := (bC_ aa.out 3).trans rfl; have iZ : w73.cell? ⟨av, 4, none⟩ = some (.slice aB ag.length aC) := (bC_ aa.out 4).trans rfl; have i0 : w73.cell? ⟨av, 5, none⟩ = some (.slice aD ai.length aE) := (bC_ aa.out 5).trans rfl; have i1 : w73.cell? ⟨av, 6, none⟩ = some (.slice ax af.length ay) := (bC_ aa.out 6).trans rfl; have i2 : w73.cell? ⟨av, 7, none⟩ = some (.string ah) := (bC_ aa.out 7).trans rfl; have i3 := bF_ aa.out 0; have i4 := bF_ aa.out 1; have i5 := bF_ aa.out 2; have i6 := bF_ aa.out 3; have i7 := bF_ aa.out 4; have i8 := bF_ aa.out 5; have i9 := bF_ aa.out 6; have ja := bF_ aa.out 7) | ((with_reducible refine gate_callee (f := 42) rfl ?_); refine goesL_ (some 13) rfl rfl Try.func42 (by kernel_rfl) rfl #[.agg #[.string ac, .slice az ab.length aA, .string ad, .string ae, .slice aB ag.length aC, .slice aD ai.length aE, .slice ax af.length ay, .string ah]] rfl Qm ?_; (with_reducible refine (r6_small.calls k ac _ _ ab ad ae _ _ ag _ _ ai _ _ af ah false _ ?side1 ?side2 ?side3 ?side4 ?side5 ?side6 ?side7 ?side8 A2.out).mono ?_); (case side1 => exact Qc (cB_ ev.out HB.out)); (case side2 => exact fq.out); (case side3 => exact Qc (cB_ fr.out HB.out)); (case side4 => exact fs.out); (case side5 => exact Qc (cB_ ft.out HB.out)); (case side6 => exact fu.out); (case side7 => exact Qc (cB_ d7.out HB.out)); (case side8 => exact d8.out); rintro e w75 ⟨rfl, hb⟩; refine ⟨_, rfl, ?_⟩; have d9 := Aside0.mk (blk_below (g := av) (o := .cells #[.string ac, .slice az ab.length aA, .string ad, .string ae, .slice aB ag.length aC, .slice aD ai.length aE, .slice ax af.length ay, .string ah] 34 (0, 0)) (Qb aa.out) hb); have ea := Aside0.mk (wT_ (Qv HB.out am.out) hb); clear aa; clear HB; have aa := d9; have HB := ea; clear d9 ea; (try clear hb); (try clear hb2); (try clear hk); (try clear hi)))
  go_ret
  exact ⟨Qe, Qv HB.out am.out⟩
end Go.Proofs.Ytojglflamecnkaa.P
