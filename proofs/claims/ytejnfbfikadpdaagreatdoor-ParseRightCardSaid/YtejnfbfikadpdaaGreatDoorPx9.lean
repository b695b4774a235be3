-- Written for this claim by the session's own run of the print, functions proved by hand put in.
import Derived.Test.YtejnfbfikadpdaaGreatDoorSq
import Derived.Test.YtejnfbfikadpdaaGreatDoorPx0
import Derived.Test.YtejnfbfikadpdaaGreatDoorPx8
namespace Go.Proofs.YtejnfbfikadpdaaGreatDoor.P
open Go.RowKit Go.Proofs.YtejnfbfikadpdaaGreatDoorW.PrintWords Go.Proofs.YtejnfbfikadpdaaGreatDoorW.PrintLast Go.Proofs.YtejnfbfikadpdaaGreatDoorW.PrintMore
open Go.Proofs.YtejnfbfikadpdaaGreatDoorW.PrintWords renaming blk_alloc → bA_, blk_drewN → bN_, blk_drew → bD_, blk_frozen → bF_, blk_cell → bC_, below_alloc → wA_, pw_below_drewN → wN_, below_drew1 → wD_, below_set → wS_, below_size → wZ_
open Go.Proofs.YtejnfbfikadpdaaGreatDoorW.PrintWords.Kd renaming R_alloc → rA_, R_drewN → rN_, R_drew → rD_
theorem c8_9 {w : World} {g : Nat} {t : TypeId} {x0 x1 x2 x3 x4 x5 x6 x7 : Value} (h : w.heap[g]? = some (.cells #[x0, x1, x2, x3, x4, x5, x6, x7] t (0, 0))) : w.cell? ⟨g, 0, none⟩ = some x0 ∧ w.cell? ⟨g, 1, none⟩ = some x1 ∧ w.cell? ⟨g, 2, none⟩ = some x2 ∧ w.cell? ⟨g, 3, none⟩ = some x3 ∧ w.cell? ⟨g, 4, none⟩ = some x4 ∧ w.cell? ⟨g, 5, none⟩ = some x5 ∧ w.cell? ⟨g, 6, none⟩ = some x6 ∧ w.cell? ⟨g, 7, none⟩ = some x7 ∧ w.frozen? ⟨g, 0, none⟩ = false ∧ w.frozen? ⟨g, 1, none⟩ = false ∧ w.frozen? ⟨g, 2, none⟩ = false ∧ w.frozen? ⟨g, 3, none⟩ = false ∧ w.frozen? ⟨g, 4, none⟩ = false ∧ w.frozen? ⟨g, 5, none⟩ = false ∧ w.frozen? ⟨g, 6, none⟩ = false ∧ w.frozen? ⟨g, 7, none⟩ = false :=
  ⟨(bC_ h 0).trans rfl, (bC_ h 1).trans rfl, (bC_ h 2).trans rfl, (bC_ h 3).trans rfl, (bC_ h 4).trans rfl, (bC_ h 5).trans rfl, (bC_ h 6).trans rfl, (bC_ h 7).trans rfl, bF_ h 0, bF_ h 1, bF_ h 2, bF_ h 3, bF_ h 4, bF_ h 5, bF_ h 6, bF_ h 7⟩
attribute [local go_sem] max2_int min2_int max_two min_two max_three min_three max_four min_four   -- for this text's walks alone
set_option linter.unusedVariables false
set_option linter.unusedSimpArgs false
mutual
def r6_Subtags.j0 : Nat → List ByteArray → ByteArray → List ByteArray → ByteArray → ByteArray → List ByteArray → List (S47) → List ByteArray → ByteArray → Option (List ByteArray)
 | 0, _, _, _, _, _, _, _, _, _ => none
 | k + 1, x3, am, ae, af, ag, ah, ab, ad, ao => r6_Subtags.l0 k x3 0 am ae af ag ah ab ad ao
def r6_Subtags.l0 : Nat → List ByteArray → Int → ByteArray → List ByteArray → ByteArray → ByteArray → List ByteArray → List (S47) → List ByteArray → ByteArray → Option (List ByteArray)
 | 0, _, _, _, _, _, _, _, _, _, _ => none
 | k + 1, x3, x4, am, ae, af, ag, ah, ab, ad, ao => if x4 < (ae.length : Int) then (if 0 ≤ x4 then (if x3.length < 8796093022208 then (r6_Subtags.l0 k (x3 ++ [rdOf ByteArray.empty ae x4]) (wrap64 (x4 + 1)) am ae af ag ah ab ad ao) else (none)) else (none)) else (if af.toList = ([] : List UInt8) then (r6_Subtags.j2 k x3 am ae af ag ah ab ad ao) else (if x3.length < 8796093022208 then (r6_Subtags.j2 k (x3 ++ [af]) am ae af ag ah ab ad ao) else (none)))
def r6_Subtags.j2 : Nat → List ByteArray → ByteArray → List ByteArray → ByteArray → ByteArray → List ByteArray → List (S47) → List ByteArray → ByteArray → Option (List ByteArray)
 | 0, _, _, _, _, _, _, _, _, _ => none
 | k + 1, x3, am, ae, af, ag, ah, ab, ad, ao => if ag.toList = ([] : List UInt8) then (r6_Subtags.j3 k x3 am ae af ag ah ab ad ao) else (if x3.length < 8796093022208 then (r6_Subtags.j3 k (x3 ++ [ag]) am ae af ag ah ab ad ao) else (none))
def r6_Subtags.j3 : Nat → List ByteArray → ByteArray → List ByteArray → ByteArray → ByteArray → List ByteArray → List (S47) → List ByteArray → ByteArray → Option (List ByteArray)
 | 0, _, _, _, _, _, _, _, _, _ => none
 | k + 1, x3, am, ae, af, ag, ah, ab, ad, ao => r6_Subtags.l1 k x3 0 am ae af ag ah ab ad ao
def r6_Subtags.l1 : Nat → List ByteArray → Int → ByteArray → List ByteArray → ByteArray → ByteArray → List ByteArray → List (S47) → List ByteArray → ByteArray → Option (List ByteArray)
 | 0, _, _, _, _, _, _, _, _, _, _ => none
 | k + 1, x3, x5, am, ae, af, ag, ah, ab, ad, ao => if x5 < (ah.length : Int) then (if 0 ≤ x5 then (if x3.length < 8796093022208 then (r6_Subtags.l1 k (x3 ++ [rdOf ByteArray.empty ah x5]) (wrap64 (x5 + 1)) am ae af ag ah ab ad ao) else (none)) else (none)) else (r6_Subtags.l2 k x3 0 am ae af ag ah ab ad ao)
def r6_Subtags.l2 : Nat → List ByteArray → Int → ByteArray → List ByteArray → ByteArray → ByteArray → List ByteArray → List (S47) → List ByteArray → ByteArray → Option (List ByteArray)
 | 0, _, _, _, _, _, _, _, _, _, _ => none
 | k + 1, x3, x6, am, ae, af, ag, ah, ab, ad, ao => if x6 < (ab.length : Int) then (if 0 ≤ x6 then (if x3.length < 8796093022208 then (r6_Subtags.l3 k (x3 ++ [(rd_T47 ab x6).f0]) x6 0 am ae af ag ah ab ad ao) else (none)) else (none)) else (if (ad.length : Int) > 0 then (if x3.length < 8796093022208 then (r6_Subtags.j7 k (x3 ++ [(⟨#[120]⟩ : ByteArray)]) am ae af ag ah ab ad ao) else (none)) else (r6_Subtags.j7 k x3 am ae af ag ah ab ad ao))
def r6_Subtags.l3 : Nat → List ByteArray → Int → Int → ByteArray → List ByteArray → ByteArray → ByteArray → List ByteArray → List (S47) → List ByteArray → ByteArray → Option (List ByteArray)
 | 0, _, _, _, _, _, _, _, _, _, _, _ => none
 | k + 1, x3, x6, x7, am, ae, af, ag, ah, ab, ad, ao => if 0 ≤ x6 then (if x6 < (ab.length : Int) then (if x7 < (((rd_T47 ab x6).f1).length : Int) then (if 0 ≤ x7 then (if x3.length < 8796093022208 then (r6_Subtags.l3 k (x3 ++ [rdOf ByteArray.empty ((rd_T47 ab x6).f1) x7]) x6 (wrap64 (x7 + 1)) am ae af ag ah ab ad ao) else (none)) else (none)) else (r6_Subtags.l2 k x3 (wrap64 (x6 + 1)) am ae af ag ah ab ad ao)) else (none)) else (none)
def r6_Subtags.j7 : Nat → List ByteArray → ByteArray → List ByteArray → ByteArray → ByteArray → List ByteArray → List (S47) → List ByteArray → ByteArray → Option (List ByteArray)
 | 0, _, _, _, _, _, _, _, _, _ => none
 | k + 1, x3, am, ae, af, ag, ah, ab, ad, ao => r6_Subtags.l4 k x3 0 am ae af ag ah ab ad ao
def r6_Subtags.l4 : Nat → List ByteArray → Int → ByteArray → List ByteArray → ByteArray → ByteArray → List ByteArray → List (S47) → List ByteArray → ByteArray → Option (List ByteArray)
 | 0, _, _, _, _, _, _, _, _, _, _ => none
 | k + 1, x3, x8, am, ae, af, ag, ah, ab, ad, ao => if x8 < (ad.length : Int) then (if 0 ≤ x8 then (if x3.length < 8796093022208 then (r6_Subtags.l4 k (x3 ++ [rdOf ByteArray.empty ad x8]) (wrap64 (x8 + 1)) am ae af ag ah ab ad ao) else (none)) else (none)) else (some x3)
end
def r6_Subtags.f (k : Nat) (ai : ByteArray) (au : List ByteArray) (aq : ByteArray) (ar : ByteArray) (av : List ByteArray) (ac : List (S47)) (aj : List ByteArray) (ak : ByteArray) : Option (List ByteArray) := if ak.toList = ([] : List UInt8) then (if ai.toList = ([] : List UInt8) then (r6_Subtags.j0 k ([] : List ByteArray) ai au aq ar av ac aj ak) else (if ([] : List ByteArray).length < 8796093022208 then (r6_Subtags.j0 k (([] : List ByteArray) ++ [ai]) ai au aq ar av ac aj ak) else (none))) else ((r4_Split.f k ak).bind fun be => (some be))
set_option maxHeartbeats 8000000 in
set_option maxRecDepth 100000 in
theorem r6_Subtags.calls (k : Nat) (ai : ByteArray) (aC : Option Addr) (ax : Nat) (au : List ByteArray) (aq : ByteArray) (ar : ByteArray) (aD : Option Addr) (ay : Nat) (av : List ByteArray) (aG : Option Addr) (az : Nat) (ac : List (S47)) (aE : Option Addr) (aA : Nat) (aj : List ByteArray) (ak : ByteArray) (r : List ByteArray) (w : World) (hr0_1 : Kd.C Kd.string w aC au.length au) (hc0_1 : au.length ≤ ax) (hr0_4 : Kd.C Kd.string w aD av.length av) (hc0_4 : av.length ≤ ay) (hr0_5 : Kd.C k47 w aG ac.length ac) (hc0_5 : ac.length ≤ az) (hr0_6 : Kd.C Kd.string w aE aj.length aj) (hc0_6 : aj.length ≤ aA) (h : r6_Subtags.f k ai au aq ar av ac aj ak = some r) :
  Calls Tryz.prog 40 #[.agg #[.string ai, .slice aC au.length ax, .string aq, .string ar, .slice aD av.length ay, .slice aG ac.length az, .slice aE aj.length aA, .string ak]] w fun e w' => ∃ v0_ : Value, e = .returned (v0_) ∧ Kd.R Kd.string 9 w' w.heap.size (fun _ => True) v0_ r ∧ Below w.heap.size w w' := by
 have hu29 := Tryz.underlying29
 have dl := Aside0.mk hr0_1
 have gW := Aside0.mk hc0_1
 clear hr0_1 hc0_1
 have dm := Aside0.mk hr0_4
 have gX := Aside0.mk hc0_4
 clear hr0_4 hc0_4
 have bb := Aside0.mk hr0_5
 have gY := Aside0.mk hc0_5
 clear hr0_5 hc0_5
 have dn := Aside0.mk hr0_6
 have gZ := Aside0.mk hc0_6
 clear hr0_6 hc0_6
 have HB := Aside0.mk (Below.refl w.heap.size w)
 have H : (if ak.toList = ([] : List UInt8) then (if ai.toList = ([] : List UInt8) then (r6_Subtags.j0 k ([] : List ByteArray) ai au aq ar av ac aj ak) else (if ([] : List ByteArray).length < 8796093022208 then (r6_Subtags.j0 k (([] : List ByteArray) ++ [ai]) ai au aq ar av ac aj ak) else (none))) else ((r4_Split.f k ak).bind fun be => (some be))) = some r := h
 clear h
 by_cases c2 : ak.toList = ([] : List UInt8)
 ·rw [if_pos c2] at H
  have dp : (ak.toList == ([] : List UInt8)) = true := beq_iff_eq.mpr c2
  have cP : ak.toList.isEmpty = true := List.isEmpty_iff.2 c2
  have gy : (!ak.toList.isEmpty) = false := by rw [cP]; rfl
  have dq : (ak.toList != ([] : List UInt8)) = false := bne_eq_false_iff_eq.mpr c2
  clear c2
  have gz := Aside0.mk H
  clear H
  go_enter Tryz.func40, Tryz.ntmps40
  go_upto_if 17 with (first | ((with_reducible refine gate_dst (N := 1) rfl ?_); refine box_event ?hg (N := 1) ?hd (cs := #[.string ai, .slice aC au.length ax, .string aq, .string ar, .slice aD av.length ay, .slice aG ac.length az, .slice aE aj.length aA, .string ak]) (t := 29) ?hr ?_; (case hd => rfl); (case hg => rfl); (case hr => first | (go_simp; done) | (go_simp; rfl)); intro ap hg w4 hbox hb; have aH := Aside0.mk (below_step (Qw HB.out) hb); have aI := Aside0.mk (hbox); have aJ := Aside0.mk ((by rw [hg]; exact (wZ_ (Qw HB.out)) : w.heap.size ≤ ap)); have dr := Aside0.mk ((by rw [hg]; exact (wZ_ (Qw HB.out)) : w.heap.size ≤ ap)); clear HB; have HB := aH; have aa := aI; have GW292 := aJ; have al := dr; clear aH aI aJ dr; clear hb hbox hg; have cQ : w4.cell? ⟨ap, 0, none⟩ = some (.string ai) := (bC_ aa.out 0).trans rfl; have cR : w4.cell? ⟨ap, 1, none⟩ = some (.slice aC au.length ax) := (bC_ aa.out 1).trans rfl; have cS : w4.cell? ⟨ap, 2, none⟩ = some (.string aq) := (bC_ aa.out 2).trans rfl; have cT : w4.cell? ⟨ap, 3, none⟩ = some (.string ar) := (bC_ aa.out 3).trans rfl; have cU : w4.cell? ⟨ap, 4, none⟩ = some (.slice aD av.length ay) := (bC_ aa.out 4).trans rfl; have cV : w4.cell? ⟨ap, 5, none⟩ = some (.slice aG ac.length az) := (bC_ aa.out 5).trans rfl; have cW : w4.cell? ⟨ap, 6, none⟩ = some (.slice aE aj.length aA) := (bC_ aa.out 6).trans rfl; have cX : w4.cell? ⟨ap, 7, none⟩ = some (.string ak) := (bC_ aa.out 7).trans rfl; have cY := bF_ aa.out 0; have cZ := bF_ aa.out 1; have c0 := bF_ aa.out 2; have c1 := bF_ aa.out 3; have da := bF_ aa.out 4; have db := bF_ aa.out 5; have dc := bF_ aa.out 6; have dd := bF_ aa.out 7))
  (try simp only [Act.put, List.setIfInBounds_toArray, List.set_cons_zero, List.set_cons_succ])
  go_cut [3] (fun v3 wc => ∃ (kq : Nat) (aR : List ByteArray), Aside0 (r6_Subtags.j0 kq aR ai au aq ar av ac aj ak = some r) ∧ Aside0 (kq ≤ k) ∧ Aside0 (Kd.R Kd.string 9 wc w.heap.size (fun _ => True) v3 aR) ∧ Aside0 (wc.heap[ap]? = some (.cells #[.string ai, (.slice aC au.length ax), .string aq, .string ar, (.slice aD av.length ay), (.slice aG ac.length az), (.slice aE aj.length aA), .string ak] 29 (0, 0))) ∧ Aside0 (Below w.heap.size w wc))
  case first =>
   have H := gz.out
   clear gz
   by_cases c6 : ai.toList = ([] : List UInt8)
   ·rw [if_pos c6] at H
    have bg : (ai.toList == ([] : List UInt8)) = true := beq_iff_eq.mpr c6
    have bh : ai.toList.isEmpty = true := List.isEmpty_iff.2 c6
    have de : (!ai.toList.isEmpty) = false := by rw [bh]; rfl
    have df : (ai.toList != ([] : List UInt8)) = false := bne_eq_false_iff_eq.mpr c6
    clear c6
    (first | rw [de] | rw [bh] | rw [bg] | rw [df] | (simp only [i64_w, i32_w]; rw [bg]) | skip)
    have H' := Aside0.mk H
    clear H
    go_wp2
    go_meet
    case rel => exact ⟨_, (([] : List ByteArray)), H', ⟨by first | omega | exact Nat.le_refl _⟩, ⟨by first | exact Kd.R_nil _ _ _ _ _ | exact Kd.N_nil _ _ _ _ _ | exact Kd.V_nil _ _ _ _ _ | exact Kd.Q_nil _ _ _ _ _ | exact Kd.S_nil _ _ _ _ _⟩, ⟨Qb aa.out⟩, ⟨Qv HB.out al.out⟩⟩
   ·rw [if_neg c6] at H
    have bg : (ai.toList == ([] : List UInt8)) = false := beq_eq_false_iff_ne.mpr c6
    have bh : ai.toList.isEmpty = false := List.isEmpty_eq_false_iff.2 c6
    have de : (!ai.toList.isEmpty) = true := by rw [bh]; rfl
    have df : (ai.toList != ([] : List UInt8)) = true := bne_iff_ne.mpr c6
    (first | rw [de] | rw [bh] | rw [bg] | rw [df] | (simp only [i64_w, i32_w]; rw [bg]) | skip)
    by_cases c7 : ([] : List ByteArray).length < 8796093022208
    ·rw [if_pos c7] at H
     have gA := Aside0.mk c7
     clear c7
     obtain ⟨ds, aV⟩ : ∃ y_ : List ByteArray, y_ = (([] : List ByteArray) ++ [ai]) := ⟨_, rfl⟩
     replace H : (r6_Subtags.j0 k ds ai au aq ar av ac aj ak) = some r := by first | (rw [aV]; with_reducible exact H) | (have H2_ := (Option.bind_some _ _).symm.trans H; rw [aV]; with_reducible exact H2_) | (have H2_ := (Option.bind_some _ _).symm.trans H; with_reducible exact H2_) | with_reducible exact H | (rw [aV]; exact H) | exact H
     have dt := Aside0.mk aV
     clear aV
     have H' := Aside0.mk H
     clear H
     obtain ⟨gB, gC, gD, gE, gF, gG, gH, gI, gJ, gK, gL, gM, gO, gP, gQ, gR⟩ := c8_9 aa.out
     go_wp2_with (first | ((with_reducible refine gate_builtin (b := .append) (xs := #[.tmp 18, .tmp 21]) rfl ?_); at_builtin; refine Kd.R_append Kd.string (w0 := w) w.heap.size rfl (.tmp 18) (.tmp 21) 26 9 (.string ⟨#[]⟩) 16 rfl Tryz.underlying26 info9 rfl (by decide) (by omega) (.slice none 0 0) ([] : List ByteArray) ai [.string ai] (fun _ => True) (fun _ => False) rfl rfl ?aP (fun _ hk => hk.elim) ?aF ?aO ?aB ?aS ?aL ?_; (case aP => exact rfl); (case aB => exact (Qv HB.out al.out)); (case aF => exact (fun _ _ => trivial)); (case aO => exact ((Kd.R_nil _ _ _ _ (fun _ => True)))); (case aS => exact (wZ_ (Qv HB.out al.out))); (case aL => have := gA.out; omega); intro v297 w9 ho hb hg hat; rw [← dt.out] at ho; have aH := Aside0.mk (blk_grown (g := ap) (o := .cells #[.string ai, .slice aC au.length ax, .string aq, .string ar, .slice aD av.length ay, .slice aG ac.length az, .slice aE aj.length aA, .string ak] 29 (0, 0)) (Qb aa.out) hg (by simp [Value.ownBlock])); have aI := Aside0.mk (hb); have aJ := Aside0.mk (ho); clear aa; clear HB; have aa := aH; have HB := aI; have du := aJ; clear aH aI aJ; clear ho hb hg hat))
     go_meet
     case rel => exact ⟨_, (ds), H', ⟨by first | omega | exact Nat.le_refl _⟩, ⟨Qr du.out⟩, ⟨Qb aa.out⟩, ⟨Qv HB.out al.out⟩⟩
    ·rw [if_neg c7] at H
     exact absurd H (by simp)
  case rest =>
   clear gz
   try clear dp; try clear dq
   try clear cQ cR cS cT cU cV cW cX; try clear cY cZ c0 c1 da db dc dd
   obtain ⟨kq, aR, HA, HJ2, HO_3, aa, HB⟩ := hcut
   cases kq with
   | zero => exact absurd HA.out (by simp [r6_Subtags.j0])
   | succ kj2 =>
    have H := HA.out
    clear HA
    simp only [r6_Subtags.j0] at H
    have H' := Aside0.mk H
    clear H
    go_wp2
    go_loopg [3, 4] kj2 (fun kq v3 v4 w' => ∃ (aR : List ByteArray) (aK : Int), v4 = .int .i64 aK ∧ Aside0 (r6_Subtags.l0 kq aR aK ai au aq ar av ac aj ak = some r) ∧ Aside0 (kq ≤ kj2) ∧ Aside0 (Kd.R Kd.string 9 w' w.heap.size (fun _ => True) v3 aR) ∧ Aside0 (w'.heap[ap]? = some (.cells #[.string ai, (.slice aC au.length ax), .string aq, .string ar, (.slice aD av.length ay), (.slice aG ac.length az), (.slice aE aj.length aA), .string ak] 29 (0, 0))) ∧ Aside0 (Below w.heap.size w w'))
    case atStart => exact ⟨(aR), (0), Qs, H', ⟨Nat.le_refl _⟩, ⟨Qr HO_3.out⟩, ⟨Qb aa.out⟩, ⟨Qv HB.out al.out⟩⟩
    case round =>
     clear H'
     obtain ⟨aR, aK, rfl, HA, HK2, HO_3, aa, HB⟩ := hrel
     cases gk with
     | zero => exact absurd HA.out (by simp [r6_Subtags.l0])
     | succ k2 =>
      have H := HA.out
      clear HA
      simp only [r6_Subtags.l0] at H
      by_cases c10 : aK < (au.length : Int)
      ·rw [if_pos c10] at H
       have cN : decide (aK < (au.length : Int)) = true := decide_eq_true c10
       clear c10
       by_cases c11 : 0 ≤ aK
       ·rw [if_pos c11] at H
        have g0 : decide (0 ≤ aK) = true := decide_eq_true c11
        clear c11
        by_cases c12 : aR.length < 8796093022208
        ·rw [if_pos c12] at H
         have dv := Aside0.mk c12
         clear c12
         obtain ⟨dw, aW⟩ : ∃ y_ : List ByteArray, y_ = (aR ++ [rdOf ByteArray.empty au aK]) := ⟨_, rfl⟩
         replace H : (r6_Subtags.l0 k2 dw (wrap64 (aK + 1)) ai au aq ar av ac aj ak) = some r := by first | (rw [aW]; with_reducible exact H) | (have H2_ := (Option.bind_some _ _).symm.trans H; rw [aW]; with_reducible exact H2_) | (have H2_ := (Option.bind_some _ _).symm.trans H; with_reducible exact H2_) | with_reducible exact H | (rw [aW]; exact H) | exact H
         have dx := Aside0.mk aW
         clear aW
         have H' := Aside0.mk H
         clear H
         obtain ⟨d6, d7, d8, d9, ea, eb, ec, ed, ee, ef, eg, eh, ei, ej, ek, el⟩ := c8_9 aa.out
         have p299 : 0 ≤ (aK : Int) := of_decide_eq_true Qa
         have q299 : aK < (au.length : Int) := of_decide_eq_true Qa
         obtain ⟨ad299, e299, hx299_0⟩ := Kd.at_string dl.out aK p299 q299
         cases e299
         replace hx299_0 := (HB.out.cell (World.block_lt_of_cell? w _ hx299_0)).trans hx299_0
         replace p299 := eq_true p299
         replace q299 := eq_true q299
         go_wp2_with (first | ((with_reducible refine gate_builtin (b := .append) (xs := #[.tmp 30, .tmp 36]) rfl ?_); at_builtin; refine Kd.R_append Kd.string (w0 := w) w.heap.size rfl (.tmp 30) (.tmp 36) 26 9 (.string ⟨#[]⟩) 16 rfl Tryz.underlying26 info9 rfl (by decide) (by omega) u3 aR (rdOf ByteArray.empty au aK) [.string (rdOf ByteArray.empty au aK)] (fun _ => True) (fun _ => False) rfl rfl ?aP (fun _ hk => hk.elim) ?aF ?aO ?aB ?aS ?aL ?_; (case aP => exact rfl); (case aB => exact (Qv HB.out al.out)); (case aF => exact (fun _ _ => trivial)); (case aO => exact (Qr HO_3.out)); (case aS => exact (wZ_ (Qv HB.out al.out))); (case aL => have := dv.out; omega); intro v301 w14 ho hb hg hat; rw [← dx.out] at ho; have aH := Aside0.mk (blk_grown (g := ap) (o := .cells #[.string ai, .slice (some ad299) au.length ax, .string aq, .string ar, .slice aD av.length ay, .slice aG ac.length az, .slice aE aj.length aA, .string ak] 29 (0, 0)) (Qb aa.out) hg (Kd.R_ne HO_3.out aa.out (by decide))); have aI := Aside0.mk (hb); have aJ := Aside0.mk (ho); clear aa; clear HB; clear HO_3; have aa := aH; have HB := aI; have dy := aJ; clear aH aI aJ; clear ho hb hg hat))
         go_roundg k2
         case measure => have := HJ2.out; have := HK2.out; omega
         case rel => exact ⟨(dw), (wrap64 (aK + 1)), Qs, H', ⟨by have := HJ2.out; have := HK2.out; omega⟩, ⟨Qr dy.out⟩, ⟨Qb aa.out⟩, ⟨Qv HB.out al.out⟩⟩
        ·rw [if_neg c12] at H
         exact absurd H (by simp)
       ·rw [if_neg c11] at H
        exact absurd H (by simp)
      ·rw [if_neg c10] at H
       have cN : decide (aK < (au.length : Int)) = false := decide_eq_false c10
       clear c10
       have dg := Aside0.mk H
       clear H
       obtain ⟨bp, bq, br, bs, bu, bv, bw, bx, bz, bA, bB, bC, bD, bE, bF, bG⟩ := c8_9 aa.out
       go_upto_if 40 with (fail)
       go_cut [3] (fun v3 wc => ∃ (kq : Nat) (aT : List ByteArray), Aside0 (r6_Subtags.j2 kq aT ai au aq ar av ac aj ak = some r) ∧ Aside0 (kq ≤ k2) ∧ Aside0 (Kd.R Kd.string 9 wc w.heap.size (fun _ => True) v3 aT) ∧ Aside0 (wc.heap[ap]? = some (.cells #[.string ai, (.slice aC au.length ax), .string aq, .string ar, (.slice aD av.length ay), (.slice aG ac.length az), (.slice aE aj.length aA), .string ak] 29 (0, 0))) ∧ Aside0 (Below w.heap.size w wc))
       case first =>
        have H := dg.out
        clear dg
        by_cases c17 : aq.toList = ([] : List UInt8)
        ·rw [if_pos c17] at H
         have aX : (aq.toList == ([] : List UInt8)) = true := beq_iff_eq.mpr c17
         have aY : aq.toList.isEmpty = true := List.isEmpty_iff.2 c17
         have bi : (!aq.toList.isEmpty) = false := by rw [aY]; rfl
         have bj : (aq.toList != ([] : List UInt8)) = false := bne_eq_false_iff_eq.mpr c17
         clear c17
         (first | rw [bi] | rw [aY] | rw [aX] | rw [bj] | (simp only [i64_w, i32_w]; rw [aX]) | skip)
         have H' := Aside0.mk H
         clear H
         go_wp2
         go_meet
         case rel => exact ⟨_, (aR), H', ⟨by have := HJ2.out; have := HK2.out; first | omega | exact Nat.le_refl _⟩, ⟨Qr HO_3.out⟩, ⟨Qb aa.out⟩, ⟨Qv HB.out al.out⟩⟩
        ·rw [if_neg c17] at H
         have aX : (aq.toList == ([] : List UInt8)) = false := beq_eq_false_iff_ne.mpr c17
         have aY : aq.toList.isEmpty = false := List.isEmpty_eq_false_iff.2 c17
         have bi : (!aq.toList.isEmpty) = true := by rw [aY]; rfl
         have bj : (aq.toList != ([] : List UInt8)) = true := bne_iff_ne.mpr c17
         (first | rw [bi] | rw [aY] | rw [aX] | rw [bj] | (simp only [i64_w, i32_w]; rw [aX]) | skip)
         by_cases c18 : aR.length < 8796093022208
         ·rw [if_pos c18] at H
          have dz := Aside0.mk c18
          clear c18
          obtain ⟨dA, aZ⟩ : ∃ y_ : List ByteArray, y_ = (aR ++ [aq]) := ⟨_, rfl⟩
          replace H : (r6_Subtags.j2 k2 dA ai au aq ar av ac aj ak) = some r := by first | (rw [aZ]; with_reducible exact H) | (have H2_ := (Option.bind_some _ _).symm.trans H; rw [aZ]; with_reducible exact H2_) | (have H2_ := (Option.bind_some _ _).symm.trans H; with_reducible exact H2_) | with_reducible exact H | (rw [aZ]; exact H) | exact H
          have dB := Aside0.mk aZ
          clear aZ
          have H' := Aside0.mk H
          clear H
          obtain ⟨em, en, eo, ep, eq, er, es, eu, ev, ew, ex, ey, ez, eA, eB, eC⟩ := c8_9 aa.out
          go_wp2_with (first | ((with_reducible refine gate_builtin (b := .append) (xs := #[.tmp 41, .tmp 44]) rfl ?_); at_builtin; refine Kd.R_append Kd.string (w0 := w) w.heap.size rfl (.tmp 41) (.tmp 44) 26 9 (.string ⟨#[]⟩) 16 rfl Tryz.underlying26 info9 rfl (by decide) (by omega) u3 aR aq [.string aq] (fun _ => True) (fun _ => False) rfl rfl ?aP (fun _ hk => hk.elim) ?aF ?aO ?aB ?aS ?aL ?_; (case aP => exact rfl); (case aB => exact (Qv HB.out al.out)); (case aF => exact (fun _ _ => trivial)); (case aO => exact (Qr HO_3.out)); (case aS => exact (wZ_ (Qv HB.out al.out))); (case aL => have := dz.out; omega); intro v304 w20 ho hb hg hat; rw [← dB.out] at ho; have aH := Aside0.mk (blk_grown (g := ap) (o := .cells #[.string ai, .slice aC au.length ax, .string aq, .string ar, .slice aD av.length ay, .slice aG ac.length az, .slice aE aj.length aA, .string ak] 29 (0, 0)) (Qb aa.out) hg (Kd.R_ne HO_3.out aa.out (by decide))); have aI := Aside0.mk (hb); have aJ := Aside0.mk (ho); clear aa; clear HB; clear HO_3; have aa := aH; have HB := aI; have dC := aJ; clear aH aI aJ; clear ho hb hg hat))
          go_meet
          case rel => exact ⟨_, (dA), H', ⟨by have := HJ2.out; have := HK2.out; first | omega | exact Nat.le_refl _⟩, ⟨Qr dC.out⟩, ⟨Qb aa.out⟩, ⟨Qv HB.out al.out⟩⟩
         ·rw [if_neg c18] at H
          exact absurd H (by simp)
       case rest =>
        clear dg
        try clear cN
        try clear bp bq br bs bu bv bw bx; try clear bz bA bB bC bD bE bF bG
        obtain ⟨kq, aT, HA, HJ14, HO_3, aa, HB⟩ := hcut
        cases kq with
        | zero => exact absurd HA.out (by simp [r6_Subtags.j2])
        | succ kj14 =>
         have H := HA.out
         clear HA
         simp only [r6_Subtags.j2] at H
         have dh := Aside0.mk H
         clear H
         obtain ⟨bH, bI, bJ, bK, bL, bM, bN, bO, bP, bQ, bR, bS, bT, bU, bV, bW⟩ := c8_9 aa.out
         go_upto_if 48 with (fail)
         go_cut [3] (fun v3 wc => ∃ (kq : Nat) (bc : List ByteArray), Aside0 (r6_Subtags.j3 kq bc ai au aq ar av ac aj ak = some r) ∧ Aside0 (kq ≤ kj14) ∧ Aside0 (Kd.R Kd.string 9 wc w.heap.size (fun _ => True) v3 bc) ∧ Aside0 (wc.heap[ap]? = some (.cells #[.string ai, (.slice aC au.length ax), .string aq, .string ar, (.slice aD av.length ay), (.slice aG ac.length az), (.slice aE aj.length aA), .string ak] 29 (0, 0))) ∧ Aside0 (Below w.heap.size w wc))
         case first =>
          have H := dh.out
          clear dh
          by_cases c23 : ar.toList = ([] : List UInt8)
          ·rw [if_pos c23] at H
           have a0 : (ar.toList == ([] : List UInt8)) = true := beq_iff_eq.mpr c23
           have a1 : ar.toList.isEmpty = true := List.isEmpty_iff.2 c23
           have bk : (!ar.toList.isEmpty) = false := by rw [a1]; rfl
           have bm : (ar.toList != ([] : List UInt8)) = false := bne_eq_false_iff_eq.mpr c23
           clear c23
           (first | rw [bk] | rw [a1] | rw [a0] | rw [bm] | (simp only [i64_w, i32_w]; rw [a0]) | skip)
           have H' := Aside0.mk H
           clear H
           go_wp2
           go_meet
           case rel => exact ⟨_, (aT), H', ⟨by have := HJ2.out; have := HK2.out; have := HJ14.out; first | omega | exact Nat.le_refl _⟩, ⟨Qr HO_3.out⟩, ⟨Qb aa.out⟩, ⟨Qv HB.out al.out⟩⟩
          ·rw [if_neg c23] at H
           have a0 : (ar.toList == ([] : List UInt8)) = false := beq_eq_false_iff_ne.mpr c23
           have a1 : ar.toList.isEmpty = false := List.isEmpty_eq_false_iff.2 c23
           have bk : (!ar.toList.isEmpty) = true := by rw [a1]; rfl
           have bm : (ar.toList != ([] : List UInt8)) = true := bne_iff_ne.mpr c23
           (first | rw [bk] | rw [a1] | rw [a0] | rw [bm] | (simp only [i64_w, i32_w]; rw [a0]) | skip)
           by_cases c24 : aT.length < 8796093022208
           ·rw [if_pos c24] at H
            have dD := Aside0.mk c24
            clear c24
            obtain ⟨dE, a2⟩ : ∃ y_ : List ByteArray, y_ = (aT ++ [ar]) := ⟨_, rfl⟩
            replace H : (r6_Subtags.j3 kj14 dE ai au aq ar av ac aj ak) = some r := by first | (rw [a2]; with_reducible exact H) | (have H2_ := (Option.bind_some _ _).symm.trans H; rw [a2]; with_reducible exact H2_) | (have H2_ := (Option.bind_some _ _).symm.trans H; with_reducible exact H2_) | with_reducible exact H | (rw [a2]; exact H) | exact H
            have dF := Aside0.mk a2
            clear a2
            have H' := Aside0.mk H
            clear H
            obtain ⟨eD, eE, eF, eG, eH, eI, eJ, eK, eL, eM, eN, eO, eP, eQ, eR, eS⟩ := c8_9 aa.out
            go_wp2_with (first | ((with_reducible refine gate_builtin (b := .append) (xs := #[.tmp 49, .tmp 52]) rfl ?_); at_builtin; refine Kd.R_append Kd.string (w0 := w) w.heap.size rfl (.tmp 49) (.tmp 52) 26 9 (.string ⟨#[]⟩) 16 rfl Tryz.underlying26 info9 rfl (by decide) (by omega) u3 aT ar [.string ar] (fun _ => True) (fun _ => False) rfl rfl ?aP (fun _ hk => hk.elim) ?aF ?aO ?aB ?aS ?aL ?_; (case aP => exact rfl); (case aB => exact (Qv HB.out al.out)); (case aF => exact (fun _ _ => trivial)); (case aO => exact (Qr HO_3.out)); (case aS => exact (wZ_ (Qv HB.out al.out))); (case aL => have := dD.out; omega); intro v307 w26 ho hb hg hat; rw [← dF.out] at ho; have aH := Aside0.mk (blk_grown (g := ap) (o := .cells #[.string ai, .slice aC au.length ax, .string aq, .string ar, .slice aD av.length ay, .slice aG ac.length az, .slice aE aj.length aA, .string ak] 29 (0, 0)) (Qb aa.out) hg (Kd.R_ne HO_3.out aa.out (by decide))); have aI := Aside0.mk (hb); have aJ := Aside0.mk (ho); clear aa; clear HB; clear HO_3; have aa := aH; have HB := aI; have dG := aJ; clear aH aI aJ; clear ho hb hg hat))
            go_meet
            case rel => exact ⟨_, (dE), H', ⟨by have := HJ2.out; have := HK2.out; have := HJ14.out; first | omega | exact Nat.le_refl _⟩, ⟨Qr dG.out⟩, ⟨Qb aa.out⟩, ⟨Qv HB.out al.out⟩⟩
           ·rw [if_neg c24] at H
            exact absurd H (by simp)
         case rest =>
          clear dh
          try clear bH bI bJ bK bL bM bN bO; try clear bP bQ bR bS bT bU bV bW
          obtain ⟨kq, bc, HA, HJ20, HO_3, aa, HB⟩ := hcut
          cases kq with
          | zero => exact absurd HA.out (by simp [r6_Subtags.j3])
          | succ kj20 =>
           have H := HA.out
           clear HA
           simp only [r6_Subtags.j3] at H
           have H' := Aside0.mk H
           clear H
           go_wp2
           go_loopg [3, 5] kj20 (fun kq v3 v5 w' => ∃ (a9 : List ByteArray) (aM : Int), v5 = .int .i64 aM ∧ Aside0 (r6_Subtags.l1 kq a9 aM ai au aq ar av ac aj ak = some r) ∧ Aside0 (kq ≤ kj20) ∧ Aside0 (Kd.R Kd.string 9 w' w.heap.size (fun _ => True) v3 a9) ∧ Aside0 (w'.heap[ap]? = some (.cells #[.string ai, (.slice aC au.length ax), .string aq, .string ar, (.slice aD av.length ay), (.slice aG ac.length az), (.slice aE aj.length aA), .string ak] 29 (0, 0))) ∧ Aside0 (Below w.heap.size w w'))
           case atStart => exact ⟨(bc), (0), Qs, H', ⟨Nat.le_refl _⟩, ⟨Qr HO_3.out⟩, ⟨Qb aa.out⟩, ⟨Qv HB.out al.out⟩⟩
           case round =>
            clear H'
            obtain ⟨a9, aM, rfl, HA, HK5, HO_3, aa, HB⟩ := hrel
            cases gk with
            | zero => exact absurd HA.out (by simp [r6_Subtags.l1])
            | succ k5 =>
             have H := HA.out
             clear HA
             simp only [r6_Subtags.l1] at H
             by_cases c27 : aM < (av.length : Int)
             ·rw [if_pos c27] at H
              have cO : decide (aM < (av.length : Int)) = true := decide_eq_true c27
              clear c27
              by_cases c28 : 0 ≤ aM
              ·rw [if_pos c28] at H
               have g1 : decide (0 ≤ aM) = true := decide_eq_true c28
               clear c28
               by_cases c29 : a9.length < 8796093022208
               ·rw [if_pos c29] at H
                have dH := Aside0.mk c29
                clear c29
                obtain ⟨dI, a3⟩ : ∃ y_ : List ByteArray, y_ = (a9 ++ [rdOf ByteArray.empty av aM]) := ⟨_, rfl⟩
                replace H : (r6_Subtags.l1 k5 dI (wrap64 (aM + 1)) ai au aq ar av ac aj ak) = some r := by first | (rw [a3]; with_reducible exact H) | (have H2_ := (Option.bind_some _ _).symm.trans H; rw [a3]; with_reducible exact H2_) | (have H2_ := (Option.bind_some _ _).symm.trans H; with_reducible exact H2_) | with_reducible exact H | (rw [a3]; exact H) | exact H
                have dJ := Aside0.mk a3
                clear a3
                have H' := Aside0.mk H
                clear H
                obtain ⟨eT, eU, eV, eW, eX, eY, eZ, e0, e1, e2, e3, e4, e5, e6, e7, e8⟩ := c8_9 aa.out
                have p309 : 0 ≤ (aM : Int) := of_decide_eq_true Qa
                have q309 : aM < (av.length : Int) := of_decide_eq_true Qa
                obtain ⟨ad309, e309, hx309_0⟩ := Kd.at_string dm.out aM p309 q309
                cases e309
                replace hx309_0 := (HB.out.cell (World.block_lt_of_cell? w _ hx309_0)).trans hx309_0
                replace p309 := eq_true p309
                replace q309 := eq_true q309
                go_wp2_with (first | ((with_reducible refine gate_builtin (b := .append) (xs := #[.tmp 61, .tmp 67]) rfl ?_); at_builtin; refine Kd.R_append Kd.string (w0 := w) w.heap.size rfl (.tmp 61) (.tmp 67) 26 9 (.string ⟨#[]⟩) 16 rfl Tryz.underlying26 info9 rfl (by decide) (by omega) u3 a9 (rdOf ByteArray.empty av aM) [.string (rdOf ByteArray.empty av aM)] (fun _ => True) (fun _ => False) rfl rfl ?aP (fun _ hk => hk.elim) ?aF ?aO ?aB ?aS ?aL ?_; (case aP => exact rfl); (case aB => exact (Qv HB.out al.out)); (case aF => exact (fun _ _ => trivial)); (case aO => exact (Qr HO_3.out)); (case aS => exact (wZ_ (Qv HB.out al.out))); (case aL => have := dH.out; omega); intro v311 w31 ho hb hg hat; rw [← dJ.out] at ho; have aH := Aside0.mk (blk_grown (g := ap) (o := .cells #[.string ai, .slice aC au.length ax, .string aq, .string ar, .slice (some ad309) av.length ay, .slice aG ac.length az, .slice aE aj.length aA, .string ak] 29 (0, 0)) (Qb aa.out) hg (Kd.R_ne HO_3.out aa.out (by decide))); have aI := Aside0.mk (hb); have aJ := Aside0.mk (ho); clear aa; clear HB; clear HO_3; have aa := aH; have HB := aI; have dK := aJ; clear aH aI aJ; clear ho hb hg hat))
                go_roundg k5
                case measure => have := HJ2.out; have := HK2.out; have := HJ14.out; have := HJ20.out; have := HK5.out; omega
                case rel => exact ⟨(dI), (wrap64 (aM + 1)), Qs, H', ⟨by have := HJ2.out; have := HK2.out; have := HJ14.out; have := HJ20.out; have := HK5.out; omega⟩, ⟨Qr dK.out⟩, ⟨Qb aa.out⟩, ⟨Qv HB.out al.out⟩⟩
               ·rw [if_neg c29] at H
                exact absurd H (by simp)
              ·rw [if_neg c28] at H
               exact absurd H (by simp)
             ·rw [if_neg c27] at H
              have cO : decide (aM < (av.length : Int)) = false := decide_eq_false c27
              clear c27
              have H' := Aside0.mk H
              clear H
              obtain ⟨bX, bY, bZ, b0, b1, b2, b3, b4, b5, b6, b7, b8, b9, ca, cb, cc⟩ := c8_9 aa.out
              go_wp2
              go_loopg [3, 6] k5 (fun kq v3 v6 w' => ∃ (aU : List ByteArray) (aw : Int), v6 = .int .i64 aw ∧ Aside0 (r6_Subtags.l2 kq aU aw ai au aq ar av ac aj ak = some r) ∧ Aside0 (kq ≤ k5) ∧ Aside0 (Kd.R Kd.string 9 w' w.heap.size (fun _ => True) v3 aU) ∧ Aside0 (w'.heap[ap]? = some (.cells #[.string ai, (.slice aC au.length ax), .string aq, .string ar, (.slice aD av.length ay), (.slice aG ac.length az), (.slice aE aj.length aA), .string ak] 29 (0, 0))) ∧ Aside0 (Below w.heap.size w w'))
              case atStart => exact ⟨(a9), (0), Qs, H', ⟨Nat.le_refl _⟩, ⟨Qr HO_3.out⟩, ⟨Qb aa.out⟩, ⟨Qv HB.out al.out⟩⟩
              case round =>
               clear H'
               try clear cO
               try clear bX bY bZ b0 b1 b2 b3 b4; try clear b5 b6 b7 b8 b9 ca cb cc
               obtain ⟨aU, aw, rfl, HA, HK6, HO_3, aa, HB⟩ := hrel
               cases gk with
               | zero => exact absurd HA.out (by simp [r6_Subtags.l2])
               | succ k6 =>
                have H := HA.out
                clear HA
                simp only [r6_Subtags.l2] at H
                by_cases c33 : aw < (ac.length : Int)
                ·rw [if_pos c33] at H
                 have bn : decide (aw < (ac.length : Int)) = true := decide_eq_true c33
                 clear c33
                 by_cases c34 : 0 ≤ aw
                 ·rw [if_pos c34] at H
                  have dL : decide (0 ≤ aw) = true := decide_eq_true c34
                  clear c34
                  by_cases c35 : aU.length < 8796093022208
                  ·rw [if_pos c35] at H
                   have dM := Aside0.mk c35
                   clear c35
                   obtain ⟨dN, a4⟩ : ∃ y_ : List ByteArray, y_ = (aU ++ [(rd_T47 ac aw).f0]) := ⟨_, rfl⟩
                   replace H : (r6_Subtags.l3 k6 dN aw 0 ai au aq ar av ac aj ak) = some r := by first | (rw [a4]; with_reducible exact H) | (have H2_ := (Option.bind_some _ _).symm.trans H; rw [a4]; with_reducible exact H2_) | (have H2_ := (Option.bind_some _ _).symm.trans H; with_reducible exact H2_) | with_reducible exact H | (rw [a4]; exact H) | exact H
                   have dO := Aside0.mk a4
                   clear a4
                   have H' := Aside0.mk H
                   clear H
                   obtain ⟨cd, ce, cf, cg, ch, ci, cj, ck, cl, cm, cn, co, cp, cq, cr, ct⟩ := c8_9 aa.out
                   have p313 : 0 ≤ (aw : Int) := of_decide_eq_true Qa
                   have q313 : aw < (ac.length : Int) := of_decide_eq_true Qa
                   obtain ⟨ad313, gS, gT, e313, hx313_0, hx313_1, hl313_1, hi313_1⟩ := at_T47 bb.out aw p313 q313
                   cases e313
                   replace hx313_0 := (HB.out.cell (World.block_lt_of_cell? w _ hx313_0)).trans hx313_0
                   replace hx313_1 := (HB.out.cell (World.block_lt_of_cell? w _ hx313_1)).trans hx313_1
                   have e9 := Aside0.mk hi313_1
                   have fa := Aside0.mk hl313_1
                   clear hi313_1 hl313_1
                   replace p313 := eq_true p313
                   replace q313 := eq_true q313
                   go_wp2_with (first | ((with_reducible refine gate_builtin (b := .append) (xs := #[.tmp 76, .tmp 83]) rfl ?_); at_builtin; refine Kd.R_append Kd.string (w0 := w) w.heap.size rfl (.tmp 76) (.tmp 83) 26 9 (.string ⟨#[]⟩) 16 rfl Tryz.underlying26 info9 rfl (by decide) (by omega) u3 aU ((rd_T47 ac aw).f0) [.string ((rd_T47 ac aw).f0)] (fun _ => True) (fun _ => False) rfl rfl ?aP (fun _ hk => hk.elim) ?aF ?aO ?aB ?aS ?aL ?_; (case aP => exact rfl); (case aB => exact (Qv HB.out al.out)); (case aF => exact (fun _ _ => trivial)); (case aO => exact (Qr HO_3.out)); (case aS => exact (wZ_ (Qv HB.out al.out))); (case aL => have := dM.out; omega); intro v315 w37 ho hb hg hat; rw [← dO.out] at ho; have aH := Aside0.mk (blk_grown (g := ap) (o := .cells #[.string ai, .slice aC au.length ax, .string aq, .string ar, .slice aD av.length ay, .slice (some ad313) ac.length az, .slice aE aj.length aA, .string ak] 29 (0, 0)) (Qb aa.out) hg (Kd.R_ne HO_3.out aa.out (by decide))); have aI := Aside0.mk (hb); have aJ := Aside0.mk (ho); clear aa; clear HB; clear HO_3; have aa := aH; have HB := aI; have dP := aJ; clear aH aI aJ; clear ho hb hg hat))
                   go_loopg [3, 7] k6 (fun kq v3 v7 w' => ∃ (ba : List ByteArray) (aN : Int), v7 = .int .i64 aN ∧ Aside0 (r6_Subtags.l3 kq ba aw aN ai au aq ar av ac aj ak = some r) ∧ Aside0 (kq ≤ k6) ∧ Aside0 (Kd.R Kd.string 9 w' w.heap.size (fun _ => True) v3 ba) ∧ Aside0 (w'.heap[ap]? = some (.cells #[.string ai, (.slice aC au.length ax), .string aq, .string ar, (.slice aD av.length ay), (.slice (some ad313) ac.length az), (.slice aE aj.length aA), .string ak] 29 (0, 0))) ∧ Aside0 (Below w.heap.size w w'))
                   case atStart => exact ⟨(dN), (0), Qs, H', ⟨Nat.le_refl _⟩, ⟨Qr dP.out⟩, ⟨Qb aa.out⟩, ⟨Qv HB.out al.out⟩⟩
                   case round =>
                    clear H'
                    try clear bn; try clear dL
                    try clear cd ce cf cg ch ci cj ck; try clear cl cm cn co cp cq cr ct
                    try clear hx313_0; try clear hx313_1; try clear p313; try clear q313
                    obtain ⟨ba, aN, rfl, HA, HK7, HO_3, aa, HB⟩ := hrel
                    cases gk with
                    | zero => exact absurd HA.out (by simp [r6_Subtags.l3])
                    | succ k7 =>
                     have H := HA.out
                     clear HA
                     simp only [r6_Subtags.l3] at H
                     by_cases c38 : 0 ≤ aw
                     ·rw [if_pos c38] at H
                      have g2 : decide (0 ≤ aw) = true := decide_eq_true c38
                      clear c38
                      by_cases c39 : aw < (ac.length : Int)
                      ·rw [if_pos c39] at H
                       have g3 : decide (aw < (ac.length : Int)) = true := decide_eq_true c39
                       clear c39
                       by_cases c40 : aN < (((rd_T47 ac aw).f1).length : Int)
                       ·rw [if_pos c40] at H
                        have dQ : decide (aN < (((rd_T47 ac aw).f1).length : Int)) = true := decide_eq_true c40
                        clear c40
                        by_cases c41 : 0 ≤ aN
                        ·rw [if_pos c41] at H
                         have g4 : decide (0 ≤ aN) = true := decide_eq_true c41
                         clear c41
                         by_cases c42 : ba.length < 8796093022208
                         ·rw [if_pos c42] at H
                          have dR := Aside0.mk c42
                          clear c42
                          obtain ⟨dS, a5⟩ : ∃ y_ : List ByteArray, y_ = (ba ++ [rdOf ByteArray.empty ((rd_T47 ac aw).f1) aN]) := ⟨_, rfl⟩
                          replace H : (r6_Subtags.l3 k7 dS aw (wrap64 (aN + 1)) ai au aq ar av ac aj ak) = some r := by first | (rw [a5]; with_reducible exact H) | (have H2_ := (Option.bind_some _ _).symm.trans H; rw [a5]; with_reducible exact H2_) | (have H2_ := (Option.bind_some _ _).symm.trans H; with_reducible exact H2_) | with_reducible exact H | (rw [a5]; exact H) | exact H
                          have dT := Aside0.mk a5
                          clear a5
                          have H' := Aside0.mk H
                          clear H
                          obtain ⟨fb, fc, fd, fe, ff, fg, fh, fi, fj, fk, fl, fm, fn, fo, fp, fq⟩ := c8_9 aa.out
                          have p317 : 0 ≤ (aw : Int) := of_decide_eq_true Qa
                          have q317 : aw < (ac.length : Int) := of_decide_eq_true Qa
                          obtain ⟨ad317, di, dj, e317, hx317_0, hx317_1, hl317_1, hi317_1⟩ := at_T47 bb.out aw p317 q317
                          obtain rfl : ad313 = ad317 := (by injection e317)
                          replace hx317_0 := (HB.out.cell (World.block_lt_of_cell? w _ hx317_0)).trans hx317_0
                          replace hx317_1 := (HB.out.cell (World.block_lt_of_cell? w _ hx317_1)).trans hx317_1
                          have cu := Aside0.mk hi317_1
                          have cv := Aside0.mk hl317_1
                          clear hi317_1 hl317_1
                          replace p317 := eq_true p317
                          replace q317 := eq_true q317
                          have p318 : 0 ≤ (aw : Int) := of_decide_eq_true Qa
                          have q318 : aw < (ac.length : Int) := of_decide_eq_true Qa
                          obtain ⟨ad318, gU, gV, e318, hx318_0, hx318_1, hl318_1, hi318_1⟩ := at_T47 bb.out aw p318 q318
                          obtain rfl : ad313 = ad318 := (by injection e318)
                          replace hx318_0 := (HB.out.cell (World.block_lt_of_cell? w _ hx318_0)).trans hx318_0
                          replace hx318_1 := (HB.out.cell (World.block_lt_of_cell? w _ hx318_1)).trans hx318_1
                          have cw := Aside0.mk hi318_1
                          have fr := Aside0.mk hl318_1
                          clear hi318_1 hl318_1
                          replace p318 := eq_true p318
                          replace q318 := eq_true q318
                          have ea_ := Option.some.inj (hx317_1.symm.trans hx318_1)
                          injection ea_ with ea_ en_ ec_
                          subst ea_
                          subst ec_
                          clear en_
                          have p319 : 0 ≤ (aN : Int) := of_decide_eq_true Qa
                          have q319 : aN < (((rd_T47 ac aw).f1).length : Int) := of_decide_eq_true Qa
                          obtain ⟨ad319, e319, hx319_0⟩ := Kd.at_string cw.out aN p319 q319
                          cases e319
                          replace hx319_0 := (HB.out.cell (World.block_lt_of_cell? w _ hx319_0)).trans hx319_0
                          replace p319 := eq_true p319
                          replace q319 := eq_true q319
                          go_wp2_with (first | ((with_reducible refine gate_builtin (b := .append) (xs := #[.tmp 96, .tmp 106]) rfl ?_); at_builtin; refine Kd.R_append Kd.string (w0 := w) w.heap.size rfl (.tmp 96) (.tmp 106) 26 9 (.string ⟨#[]⟩) 16 rfl Tryz.underlying26 info9 rfl (by decide) (by omega) u3 ba (rdOf ByteArray.empty ((rd_T47 ac aw).f1) aN) [.string (rdOf ByteArray.empty ((rd_T47 ac aw).f1) aN)] (fun _ => True) (fun _ => False) rfl rfl ?aP (fun _ hk => hk.elim) ?aF ?aO ?aB ?aS ?aL ?_; (case aP => exact rfl); (case aB => exact (Qv HB.out al.out)); (case aF => exact (fun _ _ => trivial)); (case aO => exact (Qr HO_3.out)); (case aS => exact (wZ_ (Qv HB.out al.out))); (case aL => have := dR.out; omega); intro v321 w44 ho hb hg hat; rw [← dT.out] at ho; have aH := Aside0.mk (blk_grown (g := ap) (o := .cells #[.string ai, .slice aC au.length ax, .string aq, .string ar, .slice aD av.length ay, .slice (some ad313) ac.length az, .slice aE aj.length aA, .string ak] 29 (0, 0)) (Qb aa.out) hg (Kd.R_ne HO_3.out aa.out (by decide))); have aI := Aside0.mk (hb); have aJ := Aside0.mk (ho); clear aa; clear HB; clear HO_3; have aa := aH; have HB := aI; have dU := aJ; clear aH aI aJ; clear ho hb hg hat))
                          go_roundg k7
                          case measure => have := HJ2.out; have := HK2.out; have := HJ14.out; have := HJ20.out; have := HK5.out; have := HK6.out; have := HK7.out; omega
                          case rel => exact ⟨(dS), (wrap64 (aN + 1)), Qs, H', ⟨by have := HJ2.out; have := HK2.out; have := HJ14.out; have := HJ20.out; have := HK5.out; have := HK6.out; have := HK7.out; omega⟩, ⟨Qr dU.out⟩, ⟨Qb aa.out⟩, ⟨Qv HB.out al.out⟩⟩
                         ·rw [if_neg c42] at H
                          exact absurd H (by simp)
                        ·rw [if_neg c41] at H
                         exact absurd H (by simp)
                       ·rw [if_neg c40] at H
                        have dQ : decide (aN < (((rd_T47 ac aw).f1).length : Int)) = false := decide_eq_false c40
                        clear c40
                        have H' := Aside0.mk H
                        clear H
                        obtain ⟨fs, ft, fu, fv, fw, fx, fy, fz, fA, fB, fC, fD, fE, fF, fG, fH⟩ := c8_9 aa.out
                        have p317 : 0 ≤ (aw : Int) := of_decide_eq_true Qa
                        have q317 : aw < (ac.length : Int) := of_decide_eq_true Qa
                        obtain ⟨ad317, di, dj, e317, hx317_0, hx317_1, hl317_1, hi317_1⟩ := at_T47 bb.out aw p317 q317
                        obtain rfl : ad313 = ad317 := (by injection e317)
                        replace hx317_0 := (HB.out.cell (World.block_lt_of_cell? w _ hx317_0)).trans hx317_0
                        replace hx317_1 := (HB.out.cell (World.block_lt_of_cell? w _ hx317_1)).trans hx317_1
                        have cu := Aside0.mk hi317_1
                        have cv := Aside0.mk hl317_1
                        clear hi317_1 hl317_1
                        replace p317 := eq_true p317
                        replace q317 := eq_true q317
                        go_wp2
                        go_roundg k7
                        case measure => have := HJ2.out; have := HK2.out; have := HJ14.out; have := HJ20.out; have := HK5.out; have := HK6.out; have := HK7.out; omega
                        case rel => exact ⟨(ba), (wrap64 (aw + 1)), Qs, H', ⟨by have := HJ2.out; have := HK2.out; have := HJ14.out; have := HJ20.out; have := HK5.out; have := HK6.out; have := HK7.out; omega⟩, ⟨Qr HO_3.out⟩, ⟨Qb aa.out⟩, ⟨Qv HB.out al.out⟩⟩
                      ·rw [if_neg c39] at H
                       exact absurd H (by simp)
                     ·rw [if_neg c38] at H
                      exact absurd H (by simp)
                  ·rw [if_neg c35] at H
                   exact absurd H (by simp)
                 ·rw [if_neg c34] at H
                  exact absurd H (by simp)
                ·rw [if_neg c33] at H
                 have bn : decide (aw < (ac.length : Int)) = false := decide_eq_false c33
                 clear c33
                 have dk := Aside0.mk H
                 clear H
                 obtain ⟨cx, cy, cz, cA, cB, cC, cD, cE, cF, cG, cH, cI, cJ, cK, cL, cM⟩ := c8_9 aa.out
                 go_upto_if 111 with (fail)
                 go_cut [3] (fun v3 wc => ∃ (kq : Nat) (bd : List ByteArray), Aside0 (r6_Subtags.j7 kq bd ai au aq ar av ac aj ak = some r) ∧ Aside0 (kq ≤ k6) ∧ Aside0 (Kd.R Kd.string 9 wc w.heap.size (fun _ => True) v3 bd) ∧ Aside0 (wc.heap[ap]? = some (.cells #[.string ai, (.slice aC au.length ax), .string aq, .string ar, (.slice aD av.length ay), (.slice aG ac.length az), (.slice aE aj.length aA), .string ak] 29 (0, 0))) ∧ Aside0 (Below w.heap.size w wc))
                 case first =>
                  have H := dk.out
                  clear dk
                  by_cases c48 : (aj.length : Int) > 0
                  ·rw [if_pos c48] at H
                   have a6 : decide (0 < (aj.length : Int)) = true := decide_eq_true c48
                   have bo : decide (0 < aj.length) = true := decide_eq_true (by omega)
                   clear c48
                   (first | rw [a6] | rw [bo] | (simp only [i64_w, i32_w]; rw [a6]) | skip)
                   by_cases c49 : aU.length < 8796093022208
                   ·rw [if_pos c49] at H
                    have dV := Aside0.mk c49
                    clear c49
                    obtain ⟨dW, a7⟩ : ∃ y_ : List ByteArray, y_ = (aU ++ [(⟨#[120]⟩ : ByteArray)]) := ⟨_, rfl⟩
                    replace H : (r6_Subtags.j7 k6 dW ai au aq ar av ac aj ak) = some r := by first | (rw [a7]; with_reducible exact H) | (have H2_ := (Option.bind_some _ _).symm.trans H; rw [a7]; with_reducible exact H2_) | (have H2_ := (Option.bind_some _ _).symm.trans H; with_reducible exact H2_) | with_reducible exact H | (rw [a7]; exact H) | exact H
                    have dX := Aside0.mk a7
                    clear a7
                    have H' := Aside0.mk H
                    clear H
                    go_wp2_with (first | ((with_reducible refine gate_builtin (b := .append) (xs := #[.tmp 112, .tmp 113]) rfl ?_); at_builtin; refine Kd.R_append Kd.string (w0 := w) w.heap.size rfl (.tmp 112) (.tmp 113) 26 9 (.string ⟨#[]⟩) 16 rfl Tryz.underlying26 info9 rfl (by decide) (by omega) u3 aU (⟨#[120]⟩ : ByteArray) [.string (⟨#[120]⟩ : ByteArray)] (fun _ => True) (fun _ => False) rfl rfl ?aP (fun _ hk => hk.elim) ?aF ?aO ?aB ?aS ?aL ?_; (case aP => exact rfl); (case aB => exact (Qv HB.out al.out)); (case aF => exact (fun _ _ => trivial)); (case aO => exact (Qr HO_3.out)); (case aS => exact (wZ_ (Qv HB.out al.out))); (case aL => have := dV.out; omega); intro v324 w50 ho hb hg hat; rw [← dX.out] at ho; have aH := Aside0.mk (blk_grown (g := ap) (o := .cells #[.string ai, .slice aC au.length ax, .string aq, .string ar, .slice aD av.length ay, .slice aG ac.length az, .slice aE aj.length aA, .string ak] 29 (0, 0)) (Qb aa.out) hg (Kd.R_ne HO_3.out aa.out (by decide))); have aI := Aside0.mk (hb); have aJ := Aside0.mk (ho); clear aa; clear HB; clear HO_3; have aa := aH; have HB := aI; have dY := aJ; clear aH aI aJ; clear ho hb hg hat))
                    go_meet
                    case rel => exact ⟨_, (dW), H', ⟨by have := HJ2.out; have := HK2.out; have := HJ14.out; have := HJ20.out; have := HK5.out; have := HK6.out; first | omega | exact Nat.le_refl _⟩, ⟨Qr dY.out⟩, ⟨Qb aa.out⟩, ⟨Qv HB.out al.out⟩⟩
                   ·rw [if_neg c49] at H
                    exact absurd H (by simp)
                  ·rw [if_neg c48] at H
                   have a6 : decide (0 < (aj.length : Int)) = false := decide_eq_false c48
                   have bo : decide (0 < aj.length) = false := decide_eq_false (by omega)
                   clear c48
                   (first | rw [a6] | rw [bo] | (simp only [i64_w, i32_w]; rw [a6]) | skip)
                   have H' := Aside0.mk H
                   clear H
                   go_wp2
                   go_meet
                   case rel => exact ⟨_, (aU), H', ⟨by have := HJ2.out; have := HK2.out; have := HJ14.out; have := HJ20.out; have := HK5.out; have := HK6.out; first | omega | exact Nat.le_refl _⟩, ⟨Qr HO_3.out⟩, ⟨Qb aa.out⟩, ⟨Qv HB.out al.out⟩⟩
                 case rest =>
                  clear dk
                  try clear bn
                  try clear cx cy cz cA cB cC cD cE; try clear cF cG cH cI cJ cK cL cM
                  obtain ⟨kq, bd, HA, HJ45, HO_3, aa, HB⟩ := hcut
                  cases kq with
                  | zero => exact absurd HA.out (by simp [r6_Subtags.j7])
                  | succ kj45 =>
                   have H := HA.out
                   clear HA
                   simp only [r6_Subtags.j7] at H
                   have H' := Aside0.mk H
                   clear H
                   go_wp2
                   go_loopg [3, 8] kj45 (fun kq v3 v8 w' => ∃ (bf : List ByteArray) (aQ : Int), v8 = .int .i64 aQ ∧ Aside0 (r6_Subtags.l4 kq bf aQ ai au aq ar av ac aj ak = some r) ∧ Aside0 (kq ≤ kj45) ∧ Aside0 (Kd.R Kd.string 9 w' w.heap.size (fun _ => True) v3 bf) ∧ Aside0 (w'.heap[ap]? = some (.cells #[.string ai, (.slice aC au.length ax), .string aq, .string ar, (.slice aD av.length ay), (.slice aG ac.length az), (.slice aE aj.length aA), .string ak] 29 (0, 0))) ∧ Aside0 (Below w.heap.size w w'))
                   case atStart => exact ⟨(bd), (0), Qs, H', ⟨Nat.le_refl _⟩, ⟨Qr HO_3.out⟩, ⟨Qb aa.out⟩, ⟨Qv HB.out al.out⟩⟩
                   case round =>
                    clear H'
                    obtain ⟨bf, aQ, rfl, HA, HK8, HO_3, aa, HB⟩ := hrel
                    cases gk with
                    | zero => exact absurd HA.out (by simp [r6_Subtags.l4])
                    | succ k8 =>
                     have H := HA.out
                     clear HA
                     simp only [r6_Subtags.l4] at H
                     by_cases c51 : aQ < (aj.length : Int)
                     ·rw [if_pos c51] at H
                      have dZ : decide (aQ < (aj.length : Int)) = true := decide_eq_true c51
                      clear c51
                      by_cases c52 : 0 ≤ aQ
                      ·rw [if_pos c52] at H
                       have g5 : decide (0 ≤ aQ) = true := decide_eq_true c52
                       clear c52
                       by_cases c53 : bf.length < 8796093022208
                       ·rw [if_pos c53] at H
                        have d0 := Aside0.mk c53
                        clear c53
                        obtain ⟨d1, a8⟩ : ∃ y_ : List ByteArray, y_ = (bf ++ [rdOf ByteArray.empty aj aQ]) := ⟨_, rfl⟩
                        replace H : (r6_Subtags.l4 k8 d1 (wrap64 (aQ + 1)) ai au aq ar av ac aj ak) = some r := by first | (rw [a8]; with_reducible exact H) | (have H2_ := (Option.bind_some _ _).symm.trans H; rw [a8]; with_reducible exact H2_) | (have H2_ := (Option.bind_some _ _).symm.trans H; with_reducible exact H2_) | with_reducible exact H | (rw [a8]; exact H) | exact H
                        have d2 := Aside0.mk a8
                        clear a8
                        have H' := Aside0.mk H
                        clear H
                        obtain ⟨fI, fJ, fK, fL, fM, fN, fO, fP, fQ, fR, fS, fT, fU, fV, fW, fX⟩ := c8_9 aa.out
                        have p326 : 0 ≤ (aQ : Int) := of_decide_eq_true Qa
                        have q326 : aQ < (aj.length : Int) := of_decide_eq_true Qa
                        obtain ⟨ad326, e326, hx326_0⟩ := Kd.at_string dn.out aQ p326 q326
                        cases e326
                        replace hx326_0 := (HB.out.cell (World.block_lt_of_cell? w _ hx326_0)).trans hx326_0
                        replace p326 := eq_true p326
                        replace q326 := eq_true q326
                        go_wp2_with (first | ((with_reducible refine gate_builtin (b := .append) (xs := #[.tmp 122, .tmp 128]) rfl ?_); at_builtin; refine Kd.R_append Kd.string (w0 := w) w.heap.size rfl (.tmp 122) (.tmp 128) 26 9 (.string ⟨#[]⟩) 16 rfl Tryz.underlying26 info9 rfl (by decide) (by omega) u3 bf (rdOf ByteArray.empty aj aQ) [.string (rdOf ByteArray.empty aj aQ)] (fun _ => True) (fun _ => False) rfl rfl ?aP (fun _ hk => hk.elim) ?aF ?aO ?aB ?aS ?aL ?_; (case aP => exact rfl); (case aB => exact (Qv HB.out al.out)); (case aF => exact (fun _ _ => trivial)); (case aO => exact (Qr HO_3.out)); (case aS => exact (wZ_ (Qv HB.out al.out))); (case aL => have := d0.out; omega); intro v328 w55 ho hb hg hat; rw [← d2.out] at ho; have aH := Aside0.mk (blk_grown (g := ap) (o := .cells #[.string ai, .slice aC au.length ax, .string aq, .string ar, .slice aD av.length ay, .slice aG ac.length az, .slice (some ad326) aj.length aA, .string ak] 29 (0, 0)) (Qb aa.out) hg (Kd.R_ne HO_3.out aa.out (by decide))); have aI := Aside0.mk (hb); have aJ := Aside0.mk (ho); clear aa; clear HB; clear HO_3; have aa := aH; have HB := aI; have d3 := aJ; clear aH aI aJ; clear ho hb hg hat))
                        go_roundg k8
                        case measure => have := HJ2.out; have := HK2.out; have := HJ14.out; have := HJ20.out; have := HK5.out; have := HK6.out; have := HJ45.out; have := HK8.out; omega
                        case rel => exact ⟨(d1), (wrap64 (aQ + 1)), Qs, H', ⟨by have := HJ2.out; have := HK2.out; have := HJ14.out; have := HJ20.out; have := HK5.out; have := HK6.out; have := HJ45.out; have := HK8.out; omega⟩, ⟨Qr d3.out⟩, ⟨Qb aa.out⟩, ⟨Qv HB.out al.out⟩⟩
                       ·rw [if_neg c53] at H
                        exact absurd H (by simp)
                      ·rw [if_neg c52] at H
                       exact absurd H (by simp)
                     ·rw [if_neg c51] at H
                      have dZ : decide (aQ < (aj.length : Int)) = false := decide_eq_false c51
                      clear c51
                      obtain rfl := Option.some.inj H
                      obtain ⟨fY, fZ, f2, f3, f4, f5, f6, f7, f8, f9, ga, gb, gc, ge, gf, gg⟩ := c8_9 aa.out
                      go_wp2
                      go_ret
                      exact ⟨_, Qe, Qr HO_3.out, Qv HB.out al.out⟩
 ·rw [if_neg c2] at H
  have dp : (ak.toList == ([] : List UInt8)) = false := beq_eq_false_iff_ne.mpr c2
  have cP : ak.toList.isEmpty = false := List.isEmpty_eq_false_iff.2 c2
  have gy : (!ak.toList.isEmpty) = true := by rw [cP]; rfl
  have dq : (ak.toList != ([] : List UInt8)) = true := bne_iff_ne.mpr c2
  replace H := Option.bind_eq_some_iff.mp H
  obtain ⟨be, d4, H⟩ := H
  replace H : (some be) = some r := H
  have g6 := Aside0.mk d4
  clear d4
  obtain rfl := Option.some.inj H
  go_enter Tryz.func40, Tryz.ntmps40
  go_wp2_with (first | ((with_reducible refine gate_dst (N := 1) rfl ?_); refine box_event ?hg (N := 1) ?hd (cs := #[.string ai, .slice aC au.length ax, .string aq, .string ar, .slice aD av.length ay, .slice aG ac.length az, .slice aE aj.length aA, .string ak]) (t := 29) ?hr ?_; (case hd => rfl); (case hg => rfl); (case hr => first | (go_simp; done) | (go_simp; rfl)); intro ap hg w58 hbox hb; have aH := Aside0.mk (below_step (Qw HB.out) hb); have aI := Aside0.mk (hbox); have aJ := Aside0.mk ((by rw [hg]; exact (wZ_ (Qw HB.out)) : w.heap.size ≤ ap)); have dr := Aside0.mk ((by rw [hg]; exact (wZ_ (Qw HB.out)) : w.heap.size ≤ ap)); clear HB; have HB := aH; have aa := aI; have GW292 := aJ; have al := dr; clear aH aI aJ dr; clear hb hbox hg; have gh : w58.cell? ⟨ap, 0, none⟩ = some (.string ai) := (bC_ aa.out 0).trans rfl; have gi : w58.cell? ⟨ap, 1, none⟩ = some (.slice aC au.length ax) := (bC_ aa.out 1).trans rfl; have gj : w58.cell? ⟨ap, 2, none⟩ = some (.string aq) := (bC_ aa.out 2).trans rfl; have gl : w58.cell? ⟨ap, 3, none⟩ = some (.string ar) := (bC_ aa.out 3).trans rfl; have gm : w58.cell? ⟨ap, 4, none⟩ = some (.slice aD av.length ay) := (bC_ aa.out 4).trans rfl; have gn : w58.cell? ⟨ap, 5, none⟩ = some (.slice aG ac.length az) := (bC_ aa.out 5).trans rfl; have go : w58.cell? ⟨ap, 6, none⟩ = some (.slice aE aj.length aA) := (bC_ aa.out 6).trans rfl; have gp : w58.cell? ⟨ap, 7, none⟩ = some (.string ak) := (bC_ aa.out 7).trans rfl; have gq := bF_ aa.out 0; have gr := bF_ aa.out 1; have gs := bF_ aa.out 2; have gt := bF_ aa.out 3; have gu := bF_ aa.out 4; have gv := bF_ aa.out 5; have gw := bF_ aa.out 6; have gx := bF_ aa.out 7) | ((with_reducible refine gate_callee (f := 23) rfl ?_); refine goesL_ (some 14) rfl rfl Tryz.func23 (by kernel_rfl) rfl #[.string ak] rfl Qm ?_; (with_reducible refine (r4_Split.calls k ak be _ g6.out).mono ?_); rintro e w60 ⟨v294, rfl, ho0, hb⟩; refine ⟨_, rfl, ?_⟩; have aH := Aside0.mk (Kd.R_lower ho0 (wZ_ (Qv HB.out al.out))); have aI := Aside0.mk (blk_below (g := ap) (o := .cells #[.string ai, .slice aC au.length ax, .string aq, .string ar, .slice aD av.length ay, .slice aG ac.length az, .slice aE aj.length aA, .string ak] 29 (0, 0)) (Qb aa.out) hb); have aJ := Aside0.mk (below_step (Qv HB.out al.out) hb); clear aa; clear HB; have d5 := aH; have aa := aI; have HB := aJ; clear aH aI aJ; (try clear hb); (try clear ho0)))
  go_ret
  exact ⟨_, Qe, Qr d5.out, Qv HB.out al.out⟩
end Go.Proofs.YtejnfbfikadpdaaGreatDoor.P
