-- Written for this claim by the session's own run of the print, functions proved by hand put in.
import Derived.Test.YtljadeeoaoiilaaGreatDoorSq
import Derived.Test.YtljadeeoaoiilaaGreatDoorPx0
import Derived.Test.YtljadeeoaoiilaaGreatDoorPx12
namespace Go.Proofs.YtljadeeoaoiilaaGreatDoor.P
open Go.RowKit Go.Proofs.YtljadeeoaoiilaaGreatDoorW.PrintWords Go.Proofs.YtljadeeoaoiilaaGreatDoorW.PrintLast Go.Proofs.YtljadeeoaoiilaaGreatDoorW.PrintMore
open Go.Proofs.YtljadeeoaoiilaaGreatDoorW.PrintWords renaming blk_alloc → bA_, blk_drewN → bN_, blk_drew → bD_, blk_frozen → bF_, blk_cell → bC_, below_alloc → wA_, pw_below_drewN → wN_, below_drew1 → wD_, below_set → wS_, below_size → wZ_
open Go.Proofs.YtljadeeoaoiilaaGreatDoorW.PrintWords.Kd renaming R_alloc → rA_, R_drewN → rN_, R_drew → rD_
theorem c8_13 {w : World} {g : Nat} {t : TypeId} {x0 x1 x2 x3 x4 x5 x6 x7 : Value} (h : w.heap[g]? = some (.cells #[x0, x1, x2, x3, x4, x5, x6, x7] t (0, 0))) : w.cell? ⟨g, 0, none⟩ = some x0 ∧ w.cell? ⟨g, 1, none⟩ = some x1 ∧ w.cell? ⟨g, 2, none⟩ = some x2 ∧ w.cell? ⟨g, 3, none⟩ = some x3 ∧ w.cell? ⟨g, 4, none⟩ = some x4 ∧ w.cell? ⟨g, 5, none⟩ = some x5 ∧ w.cell? ⟨g, 6, none⟩ = some x6 ∧ w.cell? ⟨g, 7, none⟩ = some x7 ∧ w.frozen? ⟨g, 0, none⟩ = false ∧ w.frozen? ⟨g, 1, none⟩ = false ∧ w.frozen? ⟨g, 2, none⟩ = false ∧ w.frozen? ⟨g, 3, none⟩ = false ∧ w.frozen? ⟨g, 4, none⟩ = false ∧ w.frozen? ⟨g, 5, none⟩ = false ∧ w.frozen? ⟨g, 6, none⟩ = false ∧ w.frozen? ⟨g, 7, none⟩ = false :=
  ⟨(bC_ h 0).trans rfl, (bC_ h 1).trans rfl, (bC_ h 2).trans rfl, (bC_ h 3).trans rfl, (bC_ h 4).trans rfl, (bC_ h 5).trans rfl, (bC_ h 6).trans rfl, (bC_ h 7).trans rfl, bF_ h 0, bF_ h 1, bF_ h 2, bF_ h 3, bF_ h 4, bF_ h 5, bF_ h 6, bF_ h 7⟩
attribute [local go_sem] max2_int min2_int max_two min_two max_three min_three max_four min_four   -- for this text's walks alone
set_option linter.unusedVariables false
set_option linter.unusedSimpArgs false
mutual
def r6_Subtags.j0 : Nat → List ByteArray → ByteArray → List ByteArray → ByteArray → ByteArray → List ByteArray → List (S40) → List ByteArray → ByteArray → Option (List ByteArray)
 | 0, _, _, _, _, _, _, _, _, _ => none
 | k + 1, x3, aj, ae, af, ag, ah, ab, ac, ak => r6_Subtags.l0 k x3 0 aj ae af ag ah ab ac ak
def r6_Subtags.l0 : Nat → List ByteArray → Int → ByteArray → List ByteArray → ByteArray → ByteArray → List ByteArray → List (S40) → List ByteArray → ByteArray → Option (List ByteArray)
 | 0, _, _, _, _, _, _, _, _, _, _ => none
 | k + 1, x3, x4, aj, ae, af, ag, ah, ab, ac, ak => if x4 < (ae.length : Int) then (if 0 ≤ x4 then (if x3.length < 8796093022208 then (r6_Subtags.l0 k (x3 ++ [rdOf ByteArray.empty ae x4]) (wrap64 (x4 + 1)) aj ae af ag ah ab ac ak) else (none)) else (none)) else (if af.toList = ([] : List UInt8) then (r6_Subtags.j2 k x3 aj ae af ag ah ab ac ak) else (if x3.length < 8796093022208 then (r6_Subtags.j2 k (x3 ++ [af]) aj ae af ag ah ab ac ak) else (none)))
def r6_Subtags.j2 : Nat → List ByteArray → ByteArray → List ByteArray → ByteArray → ByteArray → List ByteArray → List (S40) → List ByteArray → ByteArray → Option (List ByteArray)
 | 0, _, _, _, _, _, _, _, _, _ => none
 | k + 1, x3, aj, ae, af, ag, ah, ab, ac, ak => if ag.toList = ([] : List UInt8) then (r6_Subtags.j3 k x3 aj ae af ag ah ab ac ak) else (if x3.length < 8796093022208 then (r6_Subtags.j3 k (x3 ++ [ag]) aj ae af ag ah ab ac ak) else (none))
def r6_Subtags.j3 : Nat → List ByteArray → ByteArray → List ByteArray → ByteArray → ByteArray → List ByteArray → List (S40) → List ByteArray → ByteArray → Option (List ByteArray)
 | 0, _, _, _, _, _, _, _, _, _ => none
 | k + 1, x3, aj, ae, af, ag, ah, ab, ac, ak => r6_Subtags.l1 k x3 0 aj ae af ag ah ab ac ak
def r6_Subtags.l1 : Nat → List ByteArray → Int → ByteArray → List ByteArray → ByteArray → ByteArray → List ByteArray → List (S40) → List ByteArray → ByteArray → Option (List ByteArray)
 | 0, _, _, _, _, _, _, _, _, _, _ => none
 | k + 1, x3, x5, aj, ae, af, ag, ah, ab, ac, ak => if x5 < (ah.length : Int) then (if 0 ≤ x5 then (if x3.length < 8796093022208 then (r6_Subtags.l1 k (x3 ++ [rdOf ByteArray.empty ah x5]) (wrap64 (x5 + 1)) aj ae af ag ah ab ac ak) else (none)) else (none)) else (r6_Subtags.l2 k x3 0 aj ae af ag ah ab ac ak)
def r6_Subtags.l2 : Nat → List ByteArray → Int → ByteArray → List ByteArray → ByteArray → ByteArray → List ByteArray → List (S40) → List ByteArray → ByteArray → Option (List ByteArray)
 | 0, _, _, _, _, _, _, _, _, _, _ => none
 | k + 1, x3, x6, aj, ae, af, ag, ah, ab, ac, ak => if x6 < (ab.length : Int) then (if 0 ≤ x6 then (if x3.length < 8796093022208 then (r6_Subtags.l3 k (x3 ++ [(rd_T40 ab x6).f0]) x6 0 aj ae af ag ah ab ac ak) else (none)) else (none)) else (if (ac.length : Int) > 0 then (if x3.length < 8796093022208 then (r6_Subtags.j7 k (x3 ++ [(⟨#[120]⟩ : ByteArray)]) aj ae af ag ah ab ac ak) else (none)) else (r6_Subtags.j7 k x3 aj ae af ag ah ab ac ak))
def r6_Subtags.l3 : Nat → List ByteArray → Int → Int → ByteArray → List ByteArray → ByteArray → ByteArray → List ByteArray → List (S40) → List ByteArray → ByteArray → Option (List ByteArray)
 | 0, _, _, _, _, _, _, _, _, _, _, _ => none
 | k + 1, x3, x6, x7, aj, ae, af, ag, ah, ab, ac, ak => if 0 ≤ x6 then (if x6 < (ab.length : Int) then (if x7 < (((rd_T40 ab x6).f1).length : Int) then (if 0 ≤ x7 then (if x3.length < 8796093022208 then (r6_Subtags.l3 k (x3 ++ [rdOf ByteArray.empty ((rd_T40 ab x6).f1) x7]) x6 (wrap64 (x7 + 1)) aj ae af ag ah ab ac ak) else (none)) else (none)) else (r6_Subtags.l2 k x3 (wrap64 (x6 + 1)) aj ae af ag ah ab ac ak)) else (none)) else (none)
def r6_Subtags.j7 : Nat → List ByteArray → ByteArray → List ByteArray → ByteArray → ByteArray → List ByteArray → List (S40) → List ByteArray → ByteArray → Option (List ByteArray)
 | 0, _, _, _, _, _, _, _, _, _ => none
 | k + 1, x3, aj, ae, af, ag, ah, ab, ac, ak => r6_Subtags.l4 k x3 0 aj ae af ag ah ab ac ak
def r6_Subtags.l4 : Nat → List ByteArray → Int → ByteArray → List ByteArray → ByteArray → ByteArray → List ByteArray → List (S40) → List ByteArray → ByteArray → Option (List ByteArray)
 | 0, _, _, _, _, _, _, _, _, _, _ => none
 | k + 1, x3, x8, aj, ae, af, ag, ah, ab, ac, ak => if x8 < (ac.length : Int) then (if 0 ≤ x8 then (if x3.length < 8796093022208 then (r6_Subtags.l4 k (x3 ++ [rdOf ByteArray.empty ac x8]) (wrap64 (x8 + 1)) aj ae af ag ah ab ac ak) else (none)) else (none)) else (some x3)
end
def r6_Subtags.f (k : Nat) (ao : ByteArray) (au : List ByteArray) (aq : ByteArray) (ar : ByteArray) (av : List ByteArray) (ad : List (S40)) (al : List ByteArray) (ap : ByteArray) : Option (List ByteArray) := if ap.toList = ([] : List UInt8) then (if ao.toList = ([] : List UInt8) then (r6_Subtags.j0 k ([] : List ByteArray) ao au aq ar av ad al ap) else (if ([] : List ByteArray).length < 8796093022208 then (r6_Subtags.j0 k (([] : List ByteArray) ++ [ao]) ao au aq ar av ad al ap) else (none))) else ((r4_Split.f k ap).bind fun bo => (some bo))
set_option maxHeartbeats 8000000 in
set_option maxRecDepth 100000 in
theorem r6_Subtags.calls (k : Nat) (ao : ByteArray) (aC : Option Addr) (ax : Nat) (au : List ByteArray) (aq : ByteArray) (ar : ByteArray) (aD : Option Addr) (ay : Nat) (av : List ByteArray) (aG : Option Addr) (az : Nat) (ad : List (S40)) (aE : Option Addr) (aA : Nat) (al : List ByteArray) (ap : ByteArray) (r : List ByteArray) (w : World) (hr0_1 : Kd.C Kd.string w aC au.length au) (hc0_1 : au.length ≤ ax) (hr0_4 : Kd.C Kd.string w aD av.length av) (hc0_4 : av.length ≤ ay) (hr0_5 : Kd.C k40 w aG ad.length ad) (hc0_5 : ad.length ≤ az) (hr0_6 : Kd.C Kd.string w aE al.length al) (hc0_6 : al.length ≤ aA) (h : r6_Subtags.f k ao au aq ar av ad al ap = some r) :
  Calls Tryz.prog 43 #[.agg #[.string ao, .slice aC au.length ax, .string aq, .string ar, .slice aD av.length ay, .slice aG ad.length az, .slice aE al.length aA, .string ap]] w fun e w' => ∃ v0_ : Value, e = .returned (v0_) ∧ Kd.R Kd.string 9 w' w.heap.size (fun _ => True) v0_ r ∧ Below w.heap.size w w' := by
 have hu25 := Tryz.underlying25
 have dl := Aside0.mk hr0_1
 have gV := Aside0.mk hc0_1
 clear hr0_1 hc0_1
 have dm := Aside0.mk hr0_4
 have gW := Aside0.mk hc0_4
 clear hr0_4 hc0_4
 have bb := Aside0.mk hr0_5
 have gX := Aside0.mk hc0_5
 clear hr0_5 hc0_5
 have dn := Aside0.mk hr0_6
 have gY := Aside0.mk hc0_6
 clear hr0_6 hc0_6
 have HB := Aside0.mk (Below.refl w.heap.size w)
 have H := h; unfold r6_Subtags.f at H
 clear h
 by_cases c2 : ap.toList = ([] : List UInt8)
 ·rw [if_pos c2] at H
  have dp : (ap.toList == ([] : List UInt8)) = true := beq_iff_eq.mpr c2
  have cP : ap.toList.isEmpty = true := List.isEmpty_iff.2 c2
  have gx : (!ap.toList.isEmpty) = false := by rw [cP]; rfl
  have dq : (ap.toList != ([] : List UInt8)) = false := bne_eq_false_iff_eq.mpr c2
  clear c2
  have gy := Aside0.mk H
  clear H
  go_enter Tryz.func43, Tryz.ntmps43
  go_upto_if 17 with (first | ((with_reducible refine gate_dst (N := 1) rfl ?_); refine box_event ?hg (N := 1) ?hd (cs := #[.string ao, .slice aC au.length ax, .string aq, .string ar, .slice aD av.length ay, .slice aG ad.length az, .slice aE al.length aA, .string ap]) (t := 25) ?hr ?_; (case hd => rfl); (case hg => rfl); (case hr => first | (go_simp; done) | (go_simp; rfl)); intro am hg w4 hbox hb; have aH := Aside0.mk (below_step (Qw HB.out) hb); have aI := Aside0.mk (hbox); have aJ := Aside0.mk ((by rw [hg]; exact (wZ_ (Qw HB.out)) : w.heap.size ≤ am)); have dr := Aside0.mk ((by rw [hg]; exact (wZ_ (Qw HB.out)) : w.heap.size ≤ am)); clear HB; have HB := aH; have aa := aI; have GW285 := aJ; have ai := dr; clear aH aI aJ dr; clear hb hbox hg; have cQ : w4.cell? ⟨am, 0, none⟩ = some (.string ao) := (bC_ aa.out 0).trans rfl; have cR : w4.cell? ⟨am, 1, none⟩ = some (.slice aC au.length ax) := (bC_ aa.out 1).trans rfl; have cS : w4.cell? ⟨am, 2, none⟩ = some (.string aq) := (bC_ aa.out 2).trans rfl; have cT : w4.cell? ⟨am, 3, none⟩ = some (.string ar) := (bC_ aa.out 3).trans rfl; have cU : w4.cell? ⟨am, 4, none⟩ = some (.slice aD av.length ay) := (bC_ aa.out 4).trans rfl; have cV : w4.cell? ⟨am, 5, none⟩ = some (.slice aG ad.length az) := (bC_ aa.out 5).trans rfl; have cW : w4.cell? ⟨am, 6, none⟩ = some (.slice aE al.length aA) := (bC_ aa.out 6).trans rfl; have cX : w4.cell? ⟨am, 7, none⟩ = some (.string ap) := (bC_ aa.out 7).trans rfl; have cY := bF_ aa.out 0; have cZ := bF_ aa.out 1; have c0 := bF_ aa.out 2; have c1 := bF_ aa.out 3; have da := bF_ aa.out 4; have db := bF_ aa.out 5; have dc := bF_ aa.out 6; have dd := bF_ aa.out 7))
  (try simp only [Act.put, List.setIfInBounds_toArray, List.set_cons_zero, List.set_cons_succ])
  go_cut [3] (fun v3 wc => ∃ (kq : Nat) (aR : List ByteArray), Aside0 (r6_Subtags.j0 kq aR ao au aq ar av ad al ap = some r) ∧ Aside0 (kq ≤ k) ∧ Aside0 (Kd.R Kd.string 9 wc w.heap.size (fun _ => True) v3 aR) ∧ Aside0 (wc.heap[am]? = some (.cells #[.string ao, (.slice aC au.length ax), .string aq, .string ar, (.slice aD av.length ay), (.slice aG ad.length az), (.slice aE al.length aA), .string ap] 25 (0, 0))) ∧ Aside0 (Below w.heap.size w wc))
  case first =>
   have H := gy.out
   clear gy
   by_cases c6 : ao.toList = ([] : List UInt8)
   ·rw [if_pos c6] at H
    have bf : (ao.toList == ([] : List UInt8)) = true := beq_iff_eq.mpr c6
    have bg : ao.toList.isEmpty = true := List.isEmpty_iff.2 c6
    have de : (!ao.toList.isEmpty) = false := by rw [bg]; rfl
    have df : (ao.toList != ([] : List UInt8)) = false := bne_eq_false_iff_eq.mpr c6
    clear c6
    (first | rw [de] | rw [bg] | rw [bf] | rw [df] | (simp only [i64_w, i32_w]; rw [bf]) | skip)
    have H' := Aside0.mk H
    clear H
    go_wp2
    go_meet
    case rel => exact ⟨_, (([] : List ByteArray)), H', ⟨by first | omega | exact Nat.le_refl _⟩, ⟨by first | exact Kd.R_nil _ _ _ _ _ | exact Kd.N_nil _ _ _ _ _ | exact Kd.V_nil _ _ _ _ _ | exact Kd.Q_nil _ _ _ _ _ | exact Kd.S_nil _ _ _ _ _⟩, ⟨Qb aa.out⟩, ⟨Qv HB.out ai.out⟩⟩
   ·rw [if_neg c6] at H
    have bf : (ao.toList == ([] : List UInt8)) = false := beq_eq_false_iff_ne.mpr c6
    have bg : ao.toList.isEmpty = false := List.isEmpty_eq_false_iff.2 c6
    have de : (!ao.toList.isEmpty) = true := by rw [bg]; rfl
    have df : (ao.toList != ([] : List UInt8)) = true := bne_iff_ne.mpr c6
    (first | rw [de] | rw [bg] | rw [bf] | rw [df] | (simp only [i64_w, i32_w]; rw [bf]) | skip)
    by_cases c7 : ([] : List ByteArray).length < 8796093022208
    ·rw [if_pos c7] at H
     have gz := Aside0.mk c7
     clear c7
     obtain ⟨ds, aV⟩ : ∃ y_ : List ByteArray, y_ = (([] : List ByteArray) ++ [ao]) := ⟨_, rfl⟩
     replace H : (r6_Subtags.j0 k ds ao au aq ar av ad al ap) = some r := by first | (rw [aV]; with_reducible exact H) | (have H2_ := (Option.bind_some _ _).symm.trans H; rw [aV]; with_reducible exact H2_) | (have H2_ := (Option.bind_some _ _).symm.trans H; with_reducible exact H2_) | with_reducible exact H | (rw [aV]; exact H) | exact H
     have dt := Aside0.mk aV
     clear aV
     have H' := Aside0.mk H
     clear H
     obtain ⟨gA, gB, gC, gD, gE, gF, gG, gH, gI, gJ, gK, gL, gM, gO, gP, gQ⟩ := c8_13 aa.out
     go_wp2_with (first | ((with_reducible refine gate_builtin (b := .append) (xs := #[.tmp 18, .tmp 21]) rfl ?_); at_builtin; refine Kd.R_append Kd.string (w0 := w) w.heap.size rfl (.tmp 18) (.tmp 21) 22 9 (.string ⟨#[]⟩) 16 rfl Tryz.underlying22 info9 rfl (by decide) (by omega) (.slice none 0 0) ([] : List ByteArray) ao [.string ao] (fun _ => True) (fun _ => False) rfl rfl ?aP (fun _ hk => hk.elim) ?aF ?aO ?aB ?aS ?aL ?_; (case aP => exact rfl); (case aB => exact (Qv HB.out ai.out)); (case aF => exact (fun _ _ => trivial)); (case aO => exact ((Kd.R_nil _ _ _ _ (fun _ => True)))); (case aS => exact (wZ_ (Qv HB.out ai.out))); (case aL => have := gz.out; omega); intro v290 w9 ho hb hg hat; rw [← dt.out] at ho; have aH := Aside0.mk (blk_grown (g := am) (o := .cells #[.string ao, .slice aC au.length ax, .string aq, .string ar, .slice aD av.length ay, .slice aG ad.length az, .slice aE al.length aA, .string ap] 25 (0, 0)) (Qb aa.out) hg (by simp [Value.ownBlock])); have aI := Aside0.mk (hb); have aJ := Aside0.mk (ho); clear aa; clear HB; have aa := aH; have HB := aI; have du := aJ; clear aH aI aJ; clear ho hb hg hat))
     go_meet
     case rel => exact ⟨_, (ds), H', ⟨by first | omega | exact Nat.le_refl _⟩, ⟨Qr du.out⟩, ⟨Qb aa.out⟩, ⟨Qv HB.out ai.out⟩⟩
    ·rw [if_neg c7] at H
     exact absurd H (by simp)
  case rest =>
   clear gy
   try clear dp; try clear dq
   try clear cQ cR cS cT cU cV cW cX; try clear cY cZ c0 c1 da db dc dd
   obtain ⟨kq, aR, HA, HJ2, HO_3, aa, HB⟩ := hcut
   cases kq with
   | zero => exact absurd HA.out (by simp [r6_Subtags.j0])
   | succ kj2 =>
    have H := HA.out
    clear HA
    simp only [r6_Subtags.j0] at H
    have H' := Aside0.mk H
    clear H
    go_wp2
    go_loopg [3, 4] kj2 (fun kq v3 v4 w' => ∃ (aR : List ByteArray) (aK : Int), v4 = .int .i64 aK ∧ Aside0 (r6_Subtags.l0 kq aR aK ao au aq ar av ad al ap = some r) ∧ Aside0 (kq ≤ kj2) ∧ Aside0 (Kd.R Kd.string 9 w' w.heap.size (fun _ => True) v3 aR) ∧ Aside0 (w'.heap[am]? = some (.cells #[.string ao, (.slice aC au.length ax), .string aq, .string ar, (.slice aD av.length ay), (.slice aG ad.length az), (.slice aE al.length aA), .string ap] 25 (0, 0))) ∧ Aside0 (Below w.heap.size w w'))
    case atStart => exact ⟨(aR), (0), Qs, H', ⟨Nat.le_refl _⟩, ⟨Qr HO_3.out⟩, ⟨Qb aa.out⟩, ⟨Qv HB.out ai.out⟩⟩
    case round =>
     clear H'
     obtain ⟨aR, aK, rfl, HA, HK2, HO_3, aa, HB⟩ := hrel
     cases gk with
     | zero => exact absurd HA.out (by simp [r6_Subtags.l0])
     | succ k2 =>
      have H := HA.out
      clear HA
      simp only [r6_Subtags.l0] at H
      by_cases c10 : aK < (au.length : Int)
      ·rw [if_pos c10] at H
       have cN : decide (aK < (au.length : Int)) = true := decide_eq_true c10
       clear c10
       by_cases c11 : 0 ≤ aK
       ·rw [if_pos c11] at H
        have gZ : decide (0 ≤ aK) = true := decide_eq_true c11
        clear c11
        by_cases c12 : aR.length < 8796093022208
        ·rw [if_pos c12] at H
         have dv := Aside0.mk c12
         clear c12
         obtain ⟨dw, aW⟩ : ∃ y_ : List ByteArray, y_ = (aR ++ [rdOf ByteArray.empty au aK]) := ⟨_, rfl⟩
         replace H : (r6_Subtags.l0 k2 dw (wrap64 (aK + 1)) ao au aq ar av ad al ap) = some r := by first | (rw [aW]; with_reducible exact H) | (have H2_ := (Option.bind_some _ _).symm.trans H; rw [aW]; with_reducible exact H2_) | (have H2_ := (Option.bind_some _ _).symm.trans H; with_reducible exact H2_) | with_reducible exact H | (rw [aW]; exact H) | exact H
         have dx := Aside0.mk aW
         clear aW
         have H' := Aside0.mk H
         clear H
         obtain ⟨d6, d7, d8, d9, ea, eb, ec, ed, ee, ef, eg, eh, ei, ej, ek, el⟩ := c8_13 aa.out
         have p292 : 0 ≤ (aK : Int) := of_decide_eq_true Qa
         have q292 : aK < (au.length : Int) := of_decide_eq_true Qa
         obtain ⟨ad292, e292, hx292_0⟩ := Kd.at_string dl.out aK p292 q292
         cases e292
         replace hx292_0 := (HB.out.cell (World.block_lt_of_cell? w _ hx292_0)).trans hx292_0
         replace p292 := eq_true p292
         replace q292 := eq_true q292
         go_wp2_with (first | ((with_reducible refine gate_builtin (b := .append) (xs := #[.tmp 30, .tmp 36]) rfl ?_); at_builtin; refine Kd.R_append Kd.string (w0 := w) w.heap.size rfl (.tmp 30) (.tmp 36) 22 9 (.string ⟨#[]⟩) 16 rfl Tryz.underlying22 info9 rfl (by decide) (by omega) u3 aR (rdOf ByteArray.empty au aK) [.string (rdOf ByteArray.empty au aK)] (fun _ => True) (fun _ => False) rfl rfl ?aP (fun _ hk => hk.elim) ?aF ?aO ?aB ?aS ?aL ?_; (case aP => exact rfl); (case aB => exact (Qv HB.out ai.out)); (case aF => exact (fun _ _ => trivial)); (case aO => exact (Qr HO_3.out)); (case aS => exact (wZ_ (Qv HB.out ai.out))); (case aL => have := dv.out; omega); intro v294 w14 ho hb hg hat; rw [← dx.out] at ho; have aH := Aside0.mk (blk_grown (g := am) (o := .cells #[.string ao, .slice (some ad292) au.length ax, .string aq, .string ar, .slice aD av.length ay, .slice aG ad.length az, .slice aE al.length aA, .string ap] 25 (0, 0)) (Qb aa.out) hg (Kd.R_ne HO_3.out aa.out (by decide))); have aI := Aside0.mk (hb); have aJ := Aside0.mk (ho); clear aa; clear HB; clear HO_3; have aa := aH; have HB := aI; have dy := aJ; clear aH aI aJ; clear ho hb hg hat))
         go_roundg k2
         case measure => have := HJ2.out; have := HK2.out; omega
         case rel => exact ⟨(dw), (wrap64 (aK + 1)), Qs, H', ⟨by have := HJ2.out; have := HK2.out; omega⟩, ⟨Qr dy.out⟩, ⟨Qb aa.out⟩, ⟨Qv HB.out ai.out⟩⟩
        ·rw [if_neg c12] at H
         exact absurd H (by simp)
       ·rw [if_neg c11] at H
        exact absurd H (by simp)
      ·rw [if_neg c10] at H
       have cN : decide (aK < (au.length : Int)) = false := decide_eq_false c10
       clear c10
       have dg := Aside0.mk H
       clear H
       obtain ⟨bp, bq, br, bs, bu, bv, bw, bx, bz, bA, bB, bC, bD, bE, bF, bG⟩ := c8_13 aa.out
       go_upto_if 40 with (fail)
       go_cut [3] (fun v3 wc => ∃ (kq : Nat) (aT : List ByteArray), Aside0 (r6_Subtags.j2 kq aT ao au aq ar av ad al ap = some r) ∧ Aside0 (kq ≤ k2) ∧ Aside0 (Kd.R Kd.string 9 wc w.heap.size (fun _ => True) v3 aT) ∧ Aside0 (wc.heap[am]? = some (.cells #[.string ao, (.slice aC au.length ax), .string aq, .string ar, (.slice aD av.length ay), (.slice aG ad.length az), (.slice aE al.length aA), .string ap] 25 (0, 0))) ∧ Aside0 (Below w.heap.size w wc))
       case first =>
        have H := dg.out
        clear dg
        by_cases c17 : aq.toList = ([] : List UInt8)
        ·rw [if_pos c17] at H
         have aX : (aq.toList == ([] : List UInt8)) = true := beq_iff_eq.mpr c17
         have aY : aq.toList.isEmpty = true := List.isEmpty_iff.2 c17
         have bh : (!aq.toList.isEmpty) = false := by rw [aY]; rfl
         have bi : (aq.toList != ([] : List UInt8)) = false := bne_eq_false_iff_eq.mpr c17
         clear c17
         (first | rw [bh] | rw [aY] | rw [aX] | rw [bi] | (simp only [i64_w, i32_w]; rw [aX]) | skip)
         have H' := Aside0.mk H
         clear H
         go_wp2
         go_meet
         case rel => exact ⟨_, (aR), H', ⟨by have := HJ2.out; have := HK2.out; first | omega | exact Nat.le_refl _⟩, ⟨Qr HO_3.out⟩, ⟨Qb aa.out⟩, ⟨Qv HB.out ai.out⟩⟩
        ·rw [if_neg c17] at H
         have aX : (aq.toList == ([] : List UInt8)) = false := beq_eq_false_iff_ne.mpr c17
         have aY : aq.toList.isEmpty = false := List.isEmpty_eq_false_iff.2 c17
         have bh : (!aq.toList.isEmpty) = true := by rw [aY]; rfl
         have bi : (aq.toList != ([] : List UInt8)) = true := bne_iff_ne.mpr c17
         (first | rw [bh] | rw [aY] | rw [aX] | rw [bi] | (simp only [i64_w, i32_w]; rw [aX]) | skip)
         by_cases c18 : aR.length < 8796093022208
         ·rw [if_pos c18] at H
          have dz := Aside0.mk c18
          clear c18
          obtain ⟨dA, aZ⟩ : ∃ y_ : List ByteArray, y_ = (aR ++ [aq]) := ⟨_, rfl⟩
          replace H : (r6_Subtags.j2 k2 dA ao au aq ar av ad al ap) = some r := by first | (rw [aZ]; with_reducible exact H) | (have H2_ := (Option.bind_some _ _).symm.trans H; rw [aZ]; with_reducible exact H2_) | (have H2_ := (Option.bind_some _ _).symm.trans H; with_reducible exact H2_) | with_reducible exact H | (rw [aZ]; exact H) | exact H
          have dB := Aside0.mk aZ
          clear aZ
          have H' := Aside0.mk H
          clear H
          obtain ⟨em, en, eo, ep, eq, er, es, et, eu, ev, ew, ex, ey, ez, eA, eB⟩ := c8_13 aa.out
          go_wp2_with (first | ((with_reducible refine gate_builtin (b := .append) (xs := #[.tmp 41, .tmp 44]) rfl ?_); at_builtin; refine Kd.R_append Kd.string (w0 := w) w.heap.size rfl (.tmp 41) (.tmp 44) 22 9 (.string ⟨#[]⟩) 16 rfl Tryz.underlying22 info9 rfl (by decide) (by omega) u3 aR aq [.string aq] (fun _ => True) (fun _ => False) rfl rfl ?aP (fun _ hk => hk.elim) ?aF ?aO ?aB ?aS ?aL ?_; (case aP => exact rfl); (case aB => exact (Qv HB.out ai.out)); (case aF => exact (fun _ _ => trivial)); (case aO => exact (Qr HO_3.out)); (case aS => exact (wZ_ (Qv HB.out ai.out))); (case aL => have := dz.out; omega); intro v297 w20 ho hb hg hat; rw [← dB.out] at ho; have aH := Aside0.mk (blk_grown (g := am) (o := .cells #[.string ao, .slice aC au.length ax, .string aq, .string ar, .slice aD av.length ay, .slice aG ad.length az, .slice aE al.length aA, .string ap] 25 (0, 0)) (Qb aa.out) hg (Kd.R_ne HO_3.out aa.out (by decide))); have aI := Aside0.mk (hb); have aJ := Aside0.mk (ho); clear aa; clear HB; clear HO_3; have aa := aH; have HB := aI; have dC := aJ; clear aH aI aJ; clear ho hb hg hat))
          go_meet
          case rel => exact ⟨_, (dA), H', ⟨by have := HJ2.out; have := HK2.out; first | omega | exact Nat.le_refl _⟩, ⟨Qr dC.out⟩, ⟨Qb aa.out⟩, ⟨Qv HB.out ai.out⟩⟩
         ·rw [if_neg c18] at H
          exact absurd H (by simp)
       case rest =>
        clear dg
        try clear cN
        try clear bp bq br bs bu bv bw bx; try clear bz bA bB bC bD bE bF bG
        obtain ⟨kq, aT, HA, HJ14, HO_3, aa, HB⟩ := hcut
        cases kq with
        | zero => exact absurd HA.out (by simp [r6_Subtags.j2])
        | succ kj14 =>
         have H := HA.out
         clear HA
         simp only [r6_Subtags.j2] at H
         have dh := Aside0.mk H
         clear H
         obtain ⟨bH, bI, bJ, bK, bL, bM, bN, bO, bP, bQ, bR, bS, bT, bU, bV, bW⟩ := c8_13 aa.out
         go_upto_if 48 with (fail)
         go_cut [3] (fun v3 wc => ∃ (kq : Nat) (bc : List ByteArray), Aside0 (r6_Subtags.j3 kq bc ao au aq ar av ad al ap = some r) ∧ Aside0 (kq ≤ kj14) ∧ Aside0 (Kd.R Kd.string 9 wc w.heap.size (fun _ => True) v3 bc) ∧ Aside0 (wc.heap[am]? = some (.cells #[.string ao, (.slice aC au.length ax), .string aq, .string ar, (.slice aD av.length ay), (.slice aG ad.length az), (.slice aE al.length aA), .string ap] 25 (0, 0))) ∧ Aside0 (Below w.heap.size w wc))
         case first =>
          have H := dh.out
          clear dh
          by_cases c23 : ar.toList = ([] : List UInt8)
          ·rw [if_pos c23] at H
           have a0 : (ar.toList == ([] : List UInt8)) = true := beq_iff_eq.mpr c23
           have a1 : ar.toList.isEmpty = true := List.isEmpty_iff.2 c23
           have bj : (!ar.toList.isEmpty) = false := by rw [a1]; rfl
           have bk : (ar.toList != ([] : List UInt8)) = false := bne_eq_false_iff_eq.mpr c23
           clear c23
           (first | rw [bj] | rw [a1] | rw [a0] | rw [bk] | (simp only [i64_w, i32_w]; rw [a0]) | skip)
           have H' := Aside0.mk H
           clear H
           go_wp2
           go_meet
           case rel => exact ⟨_, (aT), H', ⟨by have := HJ2.out; have := HK2.out; have := HJ14.out; first | omega | exact Nat.le_refl _⟩, ⟨Qr HO_3.out⟩, ⟨Qb aa.out⟩, ⟨Qv HB.out ai.out⟩⟩
          ·rw [if_neg c23] at H
           have a0 : (ar.toList == ([] : List UInt8)) = false := beq_eq_false_iff_ne.mpr c23
           have a1 : ar.toList.isEmpty = false := List.isEmpty_eq_false_iff.2 c23
           have bj : (!ar.toList.isEmpty) = true := by rw [a1]; rfl
           have bk : (ar.toList != ([] : List UInt8)) = true := bne_iff_ne.mpr c23
           (first | rw [bj] | rw [a1] | rw [a0] | rw [bk] | (simp only [i64_w, i32_w]; rw [a0]) | skip)
           by_cases c24 : aT.length < 8796093022208
           ·rw [if_pos c24] at H
            have dD := Aside0.mk c24
            clear c24
            obtain ⟨dE, a2⟩ : ∃ y_ : List ByteArray, y_ = (aT ++ [ar]) := ⟨_, rfl⟩
            replace H : (r6_Subtags.j3 kj14 dE ao au aq ar av ad al ap) = some r := by first | (rw [a2]; with_reducible exact H) | (have H2_ := (Option.bind_some _ _).symm.trans H; rw [a2]; with_reducible exact H2_) | (have H2_ := (Option.bind_some _ _).symm.trans H; with_reducible exact H2_) | with_reducible exact H | (rw [a2]; exact H) | exact H
            have dF := Aside0.mk a2
            clear a2
            have H' := Aside0.mk H
            clear H
            obtain ⟨eC, eD, eE, eF, eG, eH, eI, eJ, eK, eL, eM, eN, eO, eP, eQ, eR⟩ := c8_13 aa.out
            go_wp2_with (first | ((with_reducible refine gate_builtin (b := .append) (xs := #[.tmp 49, .tmp 52]) rfl ?_); at_builtin; refine Kd.R_append Kd.string (w0 := w) w.heap.size rfl (.tmp 49) (.tmp 52) 22 9 (.string ⟨#[]⟩) 16 rfl Tryz.underlying22 info9 rfl (by decide) (by omega) u3 aT ar [.string ar] (fun _ => True) (fun _ => False) rfl rfl ?aP (fun _ hk => hk.elim) ?aF ?aO ?aB ?aS ?aL ?_; (case aP => exact rfl); (case aB => exact (Qv HB.out ai.out)); (case aF => exact (fun _ _ => trivial)); (case aO => exact (Qr HO_3.out)); (case aS => exact (wZ_ (Qv HB.out ai.out))); (case aL => have := dD.out; omega); intro v300 w26 ho hb hg hat; rw [← dF.out] at ho; have aH := Aside0.mk (blk_grown (g := am) (o := .cells #[.string ao, .slice aC au.length ax, .string aq, .string ar, .slice aD av.length ay, .slice aG ad.length az, .slice aE al.length aA, .string ap] 25 (0, 0)) (Qb aa.out) hg (Kd.R_ne HO_3.out aa.out (by decide))); have aI := Aside0.mk (hb); have aJ := Aside0.mk (ho); clear aa; clear HB; clear HO_3; have aa := aH; have HB := aI; have dG := aJ; clear aH aI aJ; clear ho hb hg hat))
            go_meet
            case rel => exact ⟨_, (dE), H', ⟨by have := HJ2.out; have := HK2.out; have := HJ14.out; first | omega | exact Nat.le_refl _⟩, ⟨Qr dG.out⟩, ⟨Qb aa.out⟩, ⟨Qv HB.out ai.out⟩⟩
           ·rw [if_neg c24] at H
            exact absurd H (by simp)
         case rest =>
          clear dh
          try clear bH bI bJ bK bL bM bN bO; try clear bP bQ bR bS bT bU bV bW
          obtain ⟨kq, bc, HA, HJ20, HO_3, aa, HB⟩ := hcut
          cases kq with
          | zero => exact absurd HA.out (by simp [r6_Subtags.j3])
          | succ kj20 =>
           have H := HA.out
           clear HA
           simp only [r6_Subtags.j3] at H
           have H' := Aside0.mk H
           clear H
           go_wp2
           go_loopg [3, 5] kj20 (fun kq v3 v5 w' => ∃ (a9 : List ByteArray) (aM : Int), v5 = .int .i64 aM ∧ Aside0 (r6_Subtags.l1 kq a9 aM ao au aq ar av ad al ap = some r) ∧ Aside0 (kq ≤ kj20) ∧ Aside0 (Kd.R Kd.string 9 w' w.heap.size (fun _ => True) v3 a9) ∧ Aside0 (w'.heap[am]? = some (.cells #[.string ao, (.slice aC au.length ax), .string aq, .string ar, (.slice aD av.length ay), (.slice aG ad.length az), (.slice aE al.length aA), .string ap] 25 (0, 0))) ∧ Aside0 (Below w.heap.size w w'))
           case atStart => exact ⟨(bc), (0), Qs, H', ⟨Nat.le_refl _⟩, ⟨Qr HO_3.out⟩, ⟨Qb aa.out⟩, ⟨Qv HB.out ai.out⟩⟩
           case round =>
            clear H'
            obtain ⟨a9, aM, rfl, HA, HK5, HO_3, aa, HB⟩ := hrel
            cases gk with
            | zero => exact absurd HA.out (by simp [r6_Subtags.l1])
            | succ k5 =>
             have H := HA.out
             clear HA
             simp only [r6_Subtags.l1] at H
             by_cases c27 : aM < (av.length : Int)
             ·rw [if_pos c27] at H
              have cO : decide (aM < (av.length : Int)) = true := decide_eq_true c27
              clear c27
              by_cases c28 : 0 ≤ aM
              ·rw [if_pos c28] at H
               have g0 : decide (0 ≤ aM) = true := decide_eq_true c28
               clear c28
               by_cases c29 : a9.length < 8796093022208
               ·rw [if_pos c29] at H
                have dH := Aside0.mk c29
                clear c29
                obtain ⟨dI, a3⟩ : ∃ y_ : List ByteArray, y_ = (a9 ++ [rdOf ByteArray.empty av aM]) := ⟨_, rfl⟩
                replace H : (r6_Subtags.l1 k5 dI (wrap64 (aM + 1)) ao au aq ar av ad al ap) = some r := by first | (rw [a3]; with_reducible exact H) | (have H2_ := (Option.bind_some _ _).symm.trans H; rw [a3]; with_reducible exact H2_) | (have H2_ := (Option.bind_some _ _).symm.trans H; with_reducible exact H2_) | with_reducible exact H | (rw [a3]; exact H) | exact H
                have dJ := Aside0.mk a3
                clear a3
                have H' := Aside0.mk H
                clear H
                obtain ⟨eS, eT, eU, eV, eW, eX, eY, eZ, e0, e1, e2, e3, e4, e5, e6, e7⟩ := c8_13 aa.out
                have p302 : 0 ≤ (aM : Int) := of_decide_eq_true Qa
                have q302 : aM < (av.length : Int) := of_decide_eq_true Qa
                obtain ⟨ad302, e302, hx302_0⟩ := Kd.at_string dm.out aM p302 q302
                cases e302
                replace hx302_0 := (HB.out.cell (World.block_lt_of_cell? w _ hx302_0)).trans hx302_0
                replace p302 := eq_true p302
                replace q302 := eq_true q302
                go_wp2_with (first | ((with_reducible refine gate_builtin (b := .append) (xs := #[.tmp 61, .tmp 67]) rfl ?_); at_builtin; refine Kd.R_append Kd.string (w0 := w) w.heap.size rfl (.tmp 61) (.tmp 67) 22 9 (.string ⟨#[]⟩) 16 rfl Tryz.underlying22 info9 rfl (by decide) (by omega) u3 a9 (rdOf ByteArray.empty av aM) [.string (rdOf ByteArray.empty av aM)] (fun _ => True) (fun _ => False) rfl rfl ?aP (fun _ hk => hk.elim) ?aF ?aO ?aB ?aS ?aL ?_; (case aP => exact rfl); (case aB => exact (Qv HB.out ai.out)); (case aF => exact (fun _ _ => trivial)); (case aO => exact (Qr HO_3.out)); (case aS => exact (wZ_ (Qv HB.out ai.out))); (case aL => have := dH.out; omega); intro v304 w31 ho hb hg hat; rw [← dJ.out] at ho; have aH := Aside0.mk (blk_grown (g := am) (o := .cells #[.string ao, .slice aC au.length ax, .string aq, .string ar, .slice (some ad302) av.length ay, .slice aG ad.length az, .slice aE al.length aA, .string ap] 25 (0, 0)) (Qb aa.out) hg (Kd.R_ne HO_3.out aa.out (by decide))); have aI := Aside0.mk (hb); have aJ := Aside0.mk (ho); clear aa; clear HB; clear HO_3; have aa := aH; have HB := aI; have dK := aJ; clear aH aI aJ; clear ho hb hg hat))
                go_roundg k5
                case measure => have := HJ2.out; have := HK2.out; have := HJ14.out; have := HJ20.out; have := HK5.out; omega
                case rel => exact ⟨(dI), (wrap64 (aM + 1)), Qs, H', ⟨by have := HJ2.out; have := HK2.out; have := HJ14.out; have := HJ20.out; have := HK5.out; omega⟩, ⟨Qr dK.out⟩, ⟨Qb aa.out⟩, ⟨Qv HB.out ai.out⟩⟩
               ·rw [if_neg c29] at H
                exact absurd H (by simp)
              ·rw [if_neg c28] at H
               exact absurd H (by simp)
             ·rw [if_neg c27] at H
              have cO : decide (aM < (av.length : Int)) = false := decide_eq_false c27
              clear c27
              have H' := Aside0.mk H
              clear H
              obtain ⟨bX, bY, bZ, b0, b1, b2, b3, b4, b5, b6, b7, b8, b9, ca, cb, cc⟩ := c8_13 aa.out
              go_wp2
              go_loopg [3, 6] k5 (fun kq v3 v6 w' => ∃ (aU : List ByteArray) (aw : Int), v6 = .int .i64 aw ∧ Aside0 (r6_Subtags.l2 kq aU aw ao au aq ar av ad al ap = some r) ∧ Aside0 (kq ≤ k5) ∧ Aside0 (Kd.R Kd.string 9 w' w.heap.size (fun _ => True) v3 aU) ∧ Aside0 (w'.heap[am]? = some (.cells #[.string ao, (.slice aC au.length ax), .string aq, .string ar, (.slice aD av.length ay), (.slice aG ad.length az), (.slice aE al.length aA), .string ap] 25 (0, 0))) ∧ Aside0 (Below w.heap.size w w'))
              case atStart => exact ⟨(a9), (0), Qs, H', ⟨Nat.le_refl _⟩, ⟨Qr HO_3.out⟩, ⟨Qb aa.out⟩, ⟨Qv HB.out ai.out⟩⟩
              case round =>
               clear H'
               try clear cO
               try clear bX bY bZ b0 b1 b2 b3 b4; try clear b5 b6 b7 b8 b9 ca cb cc
               obtain ⟨aU, aw, rfl, HA, HK6, HO_3, aa, HB⟩ := hrel
               cases gk with
               | zero => exact absurd HA.out (by simp [r6_Subtags.l2])
               | succ k6 =>
                have H := HA.out
                clear HA
                simp only [r6_Subtags.l2] at H
                by_cases c33 : aw < (ad.length : Int)
                ·rw [if_pos c33] at H
                 have bm : decide (aw < (ad.length : Int)) = true := decide_eq_true c33
                 clear c33
                 by_cases c34 : 0 ≤ aw
                 ·rw [if_pos c34] at H
                  have dL : decide (0 ≤ aw) = true := decide_eq_true c34
                  clear c34
                  by_cases c35 : aU.length < 8796093022208
                  ·rw [if_pos c35] at H
                   have dM := Aside0.mk c35
                   clear c35
                   obtain ⟨dN, a4⟩ : ∃ y_ : List ByteArray, y_ = (aU ++ [(rd_T40 ad aw).f0]) := ⟨_, rfl⟩
                   replace H : (r6_Subtags.l3 k6 dN aw 0 ao au aq ar av ad al ap) = some r := by first | (rw [a4]; with_reducible exact H) | (have H2_ := (Option.bind_some _ _).symm.trans H; rw [a4]; with_reducible exact H2_) | (have H2_ := (Option.bind_some _ _).symm.trans H; with_reducible exact H2_) | with_reducible exact H | (rw [a4]; exact H) | exact H
                   have dO := Aside0.mk a4
                   clear a4
                   have H' := Aside0.mk H
                   clear H
                   obtain ⟨cd, ce, cf, cg, ch, ci, cj, ck, cl, cm, cn, co, cp, cq, cr, ct⟩ := c8_13 aa.out
                   have p306 : 0 ≤ (aw : Int) := of_decide_eq_true Qa
                   have q306 : aw < (ad.length : Int) := of_decide_eq_true Qa
                   obtain ⟨ad306, gR, gS, e306, hx306_0, hx306_1, hl306_1, hi306_1⟩ := at_T40 bb.out aw p306 q306
                   cases e306
                   replace hx306_0 := (HB.out.cell (World.block_lt_of_cell? w _ hx306_0)).trans hx306_0
                   replace hx306_1 := (HB.out.cell (World.block_lt_of_cell? w _ hx306_1)).trans hx306_1
                   have e8 := Aside0.mk hi306_1
                   have e9 := Aside0.mk hl306_1
                   clear hi306_1 hl306_1
                   replace p306 := eq_true p306
                   replace q306 := eq_true q306
                   go_wp2_with (first | ((with_reducible refine gate_builtin (b := .append) (xs := #[.tmp 76, .tmp 83]) rfl ?_); at_builtin; refine Kd.R_append Kd.string (w0 := w) w.heap.size rfl (.tmp 76) (.tmp 83) 22 9 (.string ⟨#[]⟩) 16 rfl Tryz.underlying22 info9 rfl (by decide) (by omega) u3 aU ((rd_T40 ad aw).f0) [.string ((rd_T40 ad aw).f0)] (fun _ => True) (fun _ => False) rfl rfl ?aP (fun _ hk => hk.elim) ?aF ?aO ?aB ?aS ?aL ?_; (case aP => exact rfl); (case aB => exact (Qv HB.out ai.out)); (case aF => exact (fun _ _ => trivial)); (case aO => exact (Qr HO_3.out)); (case aS => exact (wZ_ (Qv HB.out ai.out))); (case aL => have := dM.out; omega); intro v308 w37 ho hb hg hat; rw [← dO.out] at ho; have aH := Aside0.mk (blk_grown (g := am) (o := .cells #[.string ao, .slice aC au.length ax, .string aq, .string ar, .slice aD av.length ay, .slice (some ad306) ad.length az, .slice aE al.length aA, .string ap] 25 (0, 0)) (Qb aa.out) hg (Kd.R_ne HO_3.out aa.out (by decide))); have aI := Aside0.mk (hb); have aJ := Aside0.mk (ho); clear aa; clear HB; clear HO_3; have aa := aH; have HB := aI; have dP := aJ; clear aH aI aJ; clear ho hb hg hat))
                   go_loopg [3, 7] k6 (fun kq v3 v7 w' => ∃ (ba : List ByteArray) (aN : Int), v7 = .int .i64 aN ∧ Aside0 (r6_Subtags.l3 kq ba aw aN ao au aq ar av ad al ap = some r) ∧ Aside0 (kq ≤ k6) ∧ Aside0 (Kd.R Kd.string 9 w' w.heap.size (fun _ => True) v3 ba) ∧ Aside0 (w'.heap[am]? = some (.cells #[.string ao, (.slice aC au.length ax), .string aq, .string ar, (.slice aD av.length ay), (.slice (some ad306) ad.length az), (.slice aE al.length aA), .string ap] 25 (0, 0))) ∧ Aside0 (Below w.heap.size w w'))
                   case atStart => exact ⟨(dN), (0), Qs, H', ⟨Nat.le_refl _⟩, ⟨Qr dP.out⟩, ⟨Qb aa.out⟩, ⟨Qv HB.out ai.out⟩⟩
                   case round =>
                    clear H'
                    try clear bm; try clear dL
                    try clear cd ce cf cg ch ci cj ck; try clear cl cm cn co cp cq cr ct
                    try clear hx306_0; try clear hx306_1; try clear p306; try clear q306
                    obtain ⟨ba, aN, rfl, HA, HK7, HO_3, aa, HB⟩ := hrel
                    cases gk with
                    | zero => exact absurd HA.out (by simp [r6_Subtags.l3])
                    | succ k7 =>
                     have H := HA.out
                     clear HA
                     simp only [r6_Subtags.l3] at H
                     by_cases c38 : 0 ≤ aw
                     ·rw [if_pos c38] at H
                      have g1 : decide (0 ≤ aw) = true := decide_eq_true c38
                      clear c38
                      by_cases c39 : aw < (ad.length : Int)
                      ·rw [if_pos c39] at H
                       have g2 : decide (aw < (ad.length : Int)) = true := decide_eq_true c39
                       clear c39
                       by_cases c40 : aN < (((rd_T40 ad aw).f1).length : Int)
                       ·rw [if_pos c40] at H
                        have dQ : decide (aN < (((rd_T40 ad aw).f1).length : Int)) = true := decide_eq_true c40
                        clear c40
                        by_cases c41 : 0 ≤ aN
                        ·rw [if_pos c41] at H
                         have g3 : decide (0 ≤ aN) = true := decide_eq_true c41
                         clear c41
                         by_cases c42 : ba.length < 8796093022208
                         ·rw [if_pos c42] at H
                          have dR := Aside0.mk c42
                          clear c42
                          obtain ⟨dS, a5⟩ : ∃ y_ : List ByteArray, y_ = (ba ++ [rdOf ByteArray.empty ((rd_T40 ad aw).f1) aN]) := ⟨_, rfl⟩
                          replace H : (r6_Subtags.l3 k7 dS aw (wrap64 (aN + 1)) ao au aq ar av ad al ap) = some r := by first | (rw [a5]; with_reducible exact H) | (have H2_ := (Option.bind_some _ _).symm.trans H; rw [a5]; with_reducible exact H2_) | (have H2_ := (Option.bind_some _ _).symm.trans H; with_reducible exact H2_) | with_reducible exact H | (rw [a5]; exact H) | exact H
                          have dT := Aside0.mk a5
                          clear a5
                          have H' := Aside0.mk H
                          clear H
                          obtain ⟨fa, fb, fc, fd, fe, ff, fg, fh, fi, fj, fk, fl, fm, fn, fo, fp⟩ := c8_13 aa.out
                          have p310 : 0 ≤ (aw : Int) := of_decide_eq_true Qa
                          have q310 : aw < (ad.length : Int) := of_decide_eq_true Qa
                          obtain ⟨ad310, di, dj, e310, hx310_0, hx310_1, hl310_1, hi310_1⟩ := at_T40 bb.out aw p310 q310
                          obtain rfl : ad306 = ad310 := (by injection e310)
                          replace hx310_0 := (HB.out.cell (World.block_lt_of_cell? w _ hx310_0)).trans hx310_0
                          replace hx310_1 := (HB.out.cell (World.block_lt_of_cell? w _ hx310_1)).trans hx310_1
                          have cu := Aside0.mk hi310_1
                          have cv := Aside0.mk hl310_1
                          clear hi310_1 hl310_1
                          replace p310 := eq_true p310
                          replace q310 := eq_true q310
                          have p311 : 0 ≤ (aw : Int) := of_decide_eq_true Qa
                          have q311 : aw < (ad.length : Int) := of_decide_eq_true Qa
                          obtain ⟨ad311, gT, gU, e311, hx311_0, hx311_1, hl311_1, hi311_1⟩ := at_T40 bb.out aw p311 q311
                          obtain rfl : ad306 = ad311 := (by injection e311)
                          replace hx311_0 := (HB.out.cell (World.block_lt_of_cell? w _ hx311_0)).trans hx311_0
                          replace hx311_1 := (HB.out.cell (World.block_lt_of_cell? w _ hx311_1)).trans hx311_1
                          have cw := Aside0.mk hi311_1
                          have fq := Aside0.mk hl311_1
                          clear hi311_1 hl311_1
                          replace p311 := eq_true p311
                          replace q311 := eq_true q311
                          have ea_ := Option.some.inj (hx310_1.symm.trans hx311_1)
                          injection ea_ with ea_ en_ ec_
                          subst ea_
                          subst ec_
                          clear en_
                          have p312 : 0 ≤ (aN : Int) := of_decide_eq_true Qa
                          have q312 : aN < (((rd_T40 ad aw).f1).length : Int) := of_decide_eq_true Qa
                          obtain ⟨ad312, e312, hx312_0⟩ := Kd.at_string cw.out aN p312 q312
                          cases e312
                          replace hx312_0 := (HB.out.cell (World.block_lt_of_cell? w _ hx312_0)).trans hx312_0
                          replace p312 := eq_true p312
                          replace q312 := eq_true q312
                          go_wp2_with (first | ((with_reducible refine gate_builtin (b := .append) (xs := #[.tmp 96, .tmp 106]) rfl ?_); at_builtin; refine Kd.R_append Kd.string (w0 := w) w.heap.size rfl (.tmp 96) (.tmp 106) 22 9 (.string ⟨#[]⟩) 16 rfl Tryz.underlying22 info9 rfl (by decide) (by omega) u3 ba (rdOf ByteArray.empty ((rd_T40 ad aw).f1) aN) [.string (rdOf ByteArray.empty ((rd_T40 ad aw).f1) aN)] (fun _ => True) (fun _ => False) rfl rfl ?aP (fun _ hk => hk.elim) ?aF ?aO ?aB ?aS ?aL ?_; (case aP => exact rfl); (case aB => exact (Qv HB.out ai.out)); (case aF => exact (fun _ _ => trivial)); (case aO => exact (Qr HO_3.out)); (case aS => exact (wZ_ (Qv HB.out ai.out))); (case aL => have := dR.out; omega); intro v314 w44 ho hb hg hat; rw [← dT.out] at ho; have aH := Aside0.mk (blk_grown (g := am) (o := .cells #[.string ao, .slice aC au.length ax, .string aq, .string ar, .slice aD av.length ay, .slice (some ad306) ad.length az, .slice aE al.length aA, .string ap] 25 (0, 0)) (Qb aa.out) hg (Kd.R_ne HO_3.out aa.out (by decide))); have aI := Aside0.mk (hb); have aJ := Aside0.mk (ho); clear aa; clear HB; clear HO_3; have aa := aH; have HB := aI; have dU := aJ; clear aH aI aJ; clear ho hb hg hat))
                          go_roundg k7
                          case measure => have := HJ2.out; have := HK2.out; have := HJ14.out; have := HJ20.out; have := HK5.out; have := HK6.out; have := HK7.out; omega
                          case rel => exact ⟨(dS), (wrap64 (aN + 1)), Qs, H', ⟨by have := HJ2.out; have := HK2.out; have := HJ14.out; have := HJ20.out; have := HK5.out; have := HK6.out; have := HK7.out; omega⟩, ⟨Qr dU.out⟩, ⟨Qb aa.out⟩, ⟨Qv HB.out ai.out⟩⟩
                         ·rw [if_neg c42] at H
                          exact absurd H (by simp)
                        ·rw [if_neg c41] at H
                         exact absurd H (by simp)
                       ·rw [if_neg c40] at H
                        have dQ : decide (aN < (((rd_T40 ad aw).f1).length : Int)) = false := decide_eq_false c40
                        clear c40
                        have H' := Aside0.mk H
                        clear H
                        obtain ⟨fr, fs, ft, fu, fv, fw, fx, fy, fz, fA, fB, fC, fD, fE, fF, fG⟩ := c8_13 aa.out
                        have p310 : 0 ≤ (aw : Int) := of_decide_eq_true Qa
                        have q310 : aw < (ad.length : Int) := of_decide_eq_true Qa
                        obtain ⟨ad310, di, dj, e310, hx310_0, hx310_1, hl310_1, hi310_1⟩ := at_T40 bb.out aw p310 q310
                        obtain rfl : ad306 = ad310 := (by injection e310)
                        replace hx310_0 := (HB.out.cell (World.block_lt_of_cell? w _ hx310_0)).trans hx310_0
                        replace hx310_1 := (HB.out.cell (World.block_lt_of_cell? w _ hx310_1)).trans hx310_1
                        have cu := Aside0.mk hi310_1
                        have cv := Aside0.mk hl310_1
                        clear hi310_1 hl310_1
                        replace p310 := eq_true p310
                        replace q310 := eq_true q310
                        go_wp2
                        go_roundg k7
                        case measure => have := HJ2.out; have := HK2.out; have := HJ14.out; have := HJ20.out; have := HK5.out; have := HK6.out; have := HK7.out; omega
                        case rel => exact ⟨(ba), (wrap64 (aw + 1)), Qs, H', ⟨by have := HJ2.out; have := HK2.out; have := HJ14.out; have := HJ20.out; have := HK5.out; have := HK6.out; have := HK7.out; omega⟩, ⟨Qr HO_3.out⟩, ⟨Qb aa.out⟩, ⟨Qv HB.out ai.out⟩⟩
                      ·rw [if_neg c39] at H
                       exact absurd H (by simp)
                     ·rw [if_neg c38] at H
                      exact absurd H (by simp)
                  ·rw [if_neg c35] at H
                   exact absurd H (by simp)
                 ·rw [if_neg c34] at H
                  exact absurd H (by simp)
                ·rw [if_neg c33] at H
                 have bm : decide (aw < (ad.length : Int)) = false := decide_eq_false c33
                 clear c33
                 have dk := Aside0.mk H
                 clear H
                 obtain ⟨cx, cy, cz, cA, cB, cC, cD, cE, cF, cG, cH, cI, cJ, cK, cL, cM⟩ := c8_13 aa.out
                 go_upto_if 111 with (fail)
                 go_cut [3] (fun v3 wc => ∃ (kq : Nat) (bd : List ByteArray), Aside0 (r6_Subtags.j7 kq bd ao au aq ar av ad al ap = some r) ∧ Aside0 (kq ≤ k6) ∧ Aside0 (Kd.R Kd.string 9 wc w.heap.size (fun _ => True) v3 bd) ∧ Aside0 (wc.heap[am]? = some (.cells #[.string ao, (.slice aC au.length ax), .string aq, .string ar, (.slice aD av.length ay), (.slice aG ad.length az), (.slice aE al.length aA), .string ap] 25 (0, 0))) ∧ Aside0 (Below w.heap.size w wc))
                 case first =>
                  have H := dk.out
                  clear dk
                  by_cases c48 : (al.length : Int) > 0
                  ·rw [if_pos c48] at H
                   have a6 : decide (0 < (al.length : Int)) = true := decide_eq_true c48
                   have bn : decide (0 < al.length) = true := decide_eq_true (by omega)
                   clear c48
                   (first | rw [a6] | rw [bn] | (simp only [i64_w, i32_w]; rw [a6]) | skip)
                   by_cases c49 : aU.length < 8796093022208
                   ·rw [if_pos c49] at H
                    have dV := Aside0.mk c49
                    clear c49
                    obtain ⟨dW, a7⟩ : ∃ y_ : List ByteArray, y_ = (aU ++ [(⟨#[120]⟩ : ByteArray)]) := ⟨_, rfl⟩
                    replace H : (r6_Subtags.j7 k6 dW ao au aq ar av ad al ap) = some r := by first | (rw [a7]; with_reducible exact H) | (have H2_ := (Option.bind_some _ _).symm.trans H; rw [a7]; with_reducible exact H2_) | (have H2_ := (Option.bind_some _ _).symm.trans H; with_reducible exact H2_) | with_reducible exact H | (rw [a7]; exact H) | exact H
                    have dX := Aside0.mk a7
                    clear a7
                    have H' := Aside0.mk H
                    clear H
                    go_wp2_with (first | ((with_reducible refine gate_builtin (b := .append) (xs := #[.tmp 112, .tmp 113]) rfl ?_); at_builtin; refine Kd.R_append Kd.string (w0 := w) w.heap.size rfl (.tmp 112) (.tmp 113) 22 9 (.string ⟨#[]⟩) 16 rfl Tryz.underlying22 info9 rfl (by decide) (by omega) u3 aU (⟨#[120]⟩ : ByteArray) [.string (⟨#[120]⟩ : ByteArray)] (fun _ => True) (fun _ => False) rfl rfl ?aP (fun _ hk => hk.elim) ?aF ?aO ?aB ?aS ?aL ?_; (case aP => exact rfl); (case aB => exact (Qv HB.out ai.out)); (case aF => exact (fun _ _ => trivial)); (case aO => exact (Qr HO_3.out)); (case aS => exact (wZ_ (Qv HB.out ai.out))); (case aL => have := dV.out; omega); intro v317 w50 ho hb hg hat; rw [← dX.out] at ho; have aH := Aside0.mk (blk_grown (g := am) (o := .cells #[.string ao, .slice aC au.length ax, .string aq, .string ar, .slice aD av.length ay, .slice aG ad.length az, .slice aE al.length aA, .string ap] 25 (0, 0)) (Qb aa.out) hg (Kd.R_ne HO_3.out aa.out (by decide))); have aI := Aside0.mk (hb); have aJ := Aside0.mk (ho); clear aa; clear HB; clear HO_3; have aa := aH; have HB := aI; have dY := aJ; clear aH aI aJ; clear ho hb hg hat))
                    go_meet
                    case rel => exact ⟨_, (dW), H', ⟨by have := HJ2.out; have := HK2.out; have := HJ14.out; have := HJ20.out; have := HK5.out; have := HK6.out; first | omega | exact Nat.le_refl _⟩, ⟨Qr dY.out⟩, ⟨Qb aa.out⟩, ⟨Qv HB.out ai.out⟩⟩
                   ·rw [if_neg c49] at H
                    exact absurd H (by simp)
                  ·rw [if_neg c48] at H
                   have a6 : decide (0 < (al.length : Int)) = false := decide_eq_false c48
                   have bn : decide (0 < al.length) = false := decide_eq_false (by omega)
                   clear c48
                   (first | rw [a6] | rw [bn] | (simp only [i64_w, i32_w]; rw [a6]) | skip)
                   have H' := Aside0.mk H
                   clear H
                   go_wp2
                   go_meet
                   case rel => exact ⟨_, (aU), H', ⟨by have := HJ2.out; have := HK2.out; have := HJ14.out; have := HJ20.out; have := HK5.out; have := HK6.out; first | omega | exact Nat.le_refl _⟩, ⟨Qr HO_3.out⟩, ⟨Qb aa.out⟩, ⟨Qv HB.out ai.out⟩⟩
                 case rest =>
                  clear dk
                  try clear bm
                  try clear cx cy cz cA cB cC cD cE; try clear cF cG cH cI cJ cK cL cM
                  obtain ⟨kq, bd, HA, HJ45, HO_3, aa, HB⟩ := hcut
                  cases kq with
                  | zero => exact absurd HA.out (by simp [r6_Subtags.j7])
                  | succ kj45 =>
                   have H := HA.out
                   clear HA
                   simp only [r6_Subtags.j7] at H
                   have H' := Aside0.mk H
                   clear H
                   go_wp2
                   go_loopg [3, 8] kj45 (fun kq v3 v8 w' => ∃ (be : List ByteArray) (aQ : Int), v8 = .int .i64 aQ ∧ Aside0 (r6_Subtags.l4 kq be aQ ao au aq ar av ad al ap = some r) ∧ Aside0 (kq ≤ kj45) ∧ Aside0 (Kd.R Kd.string 9 w' w.heap.size (fun _ => True) v3 be) ∧ Aside0 (w'.heap[am]? = some (.cells #[.string ao, (.slice aC au.length ax), .string aq, .string ar, (.slice aD av.length ay), (.slice aG ad.length az), (.slice aE al.length aA), .string ap] 25 (0, 0))) ∧ Aside0 (Below w.heap.size w w'))
                   case atStart => exact ⟨(bd), (0), Qs, H', ⟨Nat.le_refl _⟩, ⟨Qr HO_3.out⟩, ⟨Qb aa.out⟩, ⟨Qv HB.out ai.out⟩⟩
                   case round =>
                    clear H'
                    obtain ⟨be, aQ, rfl, HA, HK8, HO_3, aa, HB⟩ := hrel
                    cases gk with
                    | zero => exact absurd HA.out (by simp [r6_Subtags.l4])
                    | succ k8 =>
                     have H := HA.out
                     clear HA
                     simp only [r6_Subtags.l4] at H
                     by_cases c51 : aQ < (al.length : Int)
                     ·rw [if_pos c51] at H
                      have dZ : decide (aQ < (al.length : Int)) = true := decide_eq_true c51
                      clear c51
                      by_cases c52 : 0 ≤ aQ
                      ·rw [if_pos c52] at H
                       have g4 : decide (0 ≤ aQ) = true := decide_eq_true c52
                       clear c52
                       by_cases c53 : be.length < 8796093022208
                       ·rw [if_pos c53] at H
                        have d0 := Aside0.mk c53
                        clear c53
                        obtain ⟨d1, a8⟩ : ∃ y_ : List ByteArray, y_ = (be ++ [rdOf ByteArray.empty al aQ]) := ⟨_, rfl⟩
                        replace H : (r6_Subtags.l4 k8 d1 (wrap64 (aQ + 1)) ao au aq ar av ad al ap) = some r := by first | (rw [a8]; with_reducible exact H) | (have H2_ := (Option.bind_some _ _).symm.trans H; rw [a8]; with_reducible exact H2_) | (have H2_ := (Option.bind_some _ _).symm.trans H; with_reducible exact H2_) | with_reducible exact H | (rw [a8]; exact H) | exact H
                        have d2 := Aside0.mk a8
                        clear a8
                        have H' := Aside0.mk H
                        clear H
                        obtain ⟨fH, fI, fJ, fK, fL, fM, fN, fO, fP, fQ, fR, fS, fT, fU, fV, fW⟩ := c8_13 aa.out
                        have p319 : 0 ≤ (aQ : Int) := of_decide_eq_true Qa
                        have q319 : aQ < (al.length : Int) := of_decide_eq_true Qa
                        obtain ⟨ad319, e319, hx319_0⟩ := Kd.at_string dn.out aQ p319 q319
                        cases e319
                        replace hx319_0 := (HB.out.cell (World.block_lt_of_cell? w _ hx319_0)).trans hx319_0
                        replace p319 := eq_true p319
                        replace q319 := eq_true q319
                        go_wp2_with (first | ((with_reducible refine gate_builtin (b := .append) (xs := #[.tmp 122, .tmp 128]) rfl ?_); at_builtin; refine Kd.R_append Kd.string (w0 := w) w.heap.size rfl (.tmp 122) (.tmp 128) 22 9 (.string ⟨#[]⟩) 16 rfl Tryz.underlying22 info9 rfl (by decide) (by omega) u3 be (rdOf ByteArray.empty al aQ) [.string (rdOf ByteArray.empty al aQ)] (fun _ => True) (fun _ => False) rfl rfl ?aP (fun _ hk => hk.elim) ?aF ?aO ?aB ?aS ?aL ?_; (case aP => exact rfl); (case aB => exact (Qv HB.out ai.out)); (case aF => exact (fun _ _ => trivial)); (case aO => exact (Qr HO_3.out)); (case aS => exact (wZ_ (Qv HB.out ai.out))); (case aL => have := d0.out; omega); intro v321 w55 ho hb hg hat; rw [← d2.out] at ho; have aH := Aside0.mk (blk_grown (g := am) (o := .cells #[.string ao, .slice aC au.length ax, .string aq, .string ar, .slice aD av.length ay, .slice aG ad.length az, .slice (some ad319) al.length aA, .string ap] 25 (0, 0)) (Qb aa.out) hg (Kd.R_ne HO_3.out aa.out (by decide))); have aI := Aside0.mk (hb); have aJ := Aside0.mk (ho); clear aa; clear HB; clear HO_3; have aa := aH; have HB := aI; have d3 := aJ; clear aH aI aJ; clear ho hb hg hat))
                        go_roundg k8
                        case measure => have := HJ2.out; have := HK2.out; have := HJ14.out; have := HJ20.out; have := HK5.out; have := HK6.out; have := HJ45.out; have := HK8.out; omega
                        case rel => exact ⟨(d1), (wrap64 (aQ + 1)), Qs, H', ⟨by have := HJ2.out; have := HK2.out; have := HJ14.out; have := HJ20.out; have := HK5.out; have := HK6.out; have := HJ45.out; have := HK8.out; omega⟩, ⟨Qr d3.out⟩, ⟨Qb aa.out⟩, ⟨Qv HB.out ai.out⟩⟩
                       ·rw [if_neg c53] at H
                        exact absurd H (by simp)
                      ·rw [if_neg c52] at H
                       exact absurd H (by simp)
                     ·rw [if_neg c51] at H
                      have dZ : decide (aQ < (al.length : Int)) = false := decide_eq_false c51
                      clear c51
                      obtain rfl := Option.some.inj H
                      obtain ⟨fX, fY, fZ, f2, f3, f4, f5, f6, f7, f8, f9, ga, gb, gc, ge, gf⟩ := c8_13 aa.out
                      go_wp2
                      go_ret
                      exact ⟨_, Qe, Qr HO_3.out, Qv HB.out ai.out⟩
 ·rw [if_neg c2] at H
  have dp : (ap.toList == ([] : List UInt8)) = false := beq_eq_false_iff_ne.mpr c2
  have cP : ap.toList.isEmpty = false := List.isEmpty_eq_false_iff.2 c2
  have gx : (!ap.toList.isEmpty) = true := by rw [cP]; rfl
  have dq : (ap.toList != ([] : List UInt8)) = true := bne_iff_ne.mpr c2
  replace H := Option.bind_eq_some_iff.mp H
  obtain ⟨bo, d4, H⟩ := H
  replace H : (some bo) = some r := H
  have g5 := Aside0.mk d4
  clear d4
  obtain rfl := Option.some.inj H
  go_enter Tryz.func43, Tryz.ntmps43
  go_wp2_with (first | ((with_reducible refine gate_dst (N := 1) rfl ?_); refine box_event ?hg (N := 1) ?hd (cs := #[.string ao, .slice aC au.length ax, .string aq, .string ar, .slice aD av.length ay, .slice aG ad.length az, .slice aE al.length aA, .string ap]) (t := 25) ?hr ?_; (case hd => rfl); (case hg => rfl); (case hr => first | (go_simp; done) | (go_simp; rfl)); intro am hg w58 hbox hb; have aH := Aside0.mk (below_step (Qw HB.out) hb); have aI := Aside0.mk (hbox); have aJ := Aside0.mk ((by rw [hg]; exact (wZ_ (Qw HB.out)) : w.heap.size ≤ am)); have dr := Aside0.mk ((by rw [hg]; exact (wZ_ (Qw HB.out)) : w.heap.size ≤ am)); clear HB; have HB := aH; have aa := aI; have GW285 := aJ; have ai := dr; clear aH aI aJ dr; clear hb hbox hg; have gg : w58.cell? ⟨am, 0, none⟩ = some (.string ao) := (bC_ aa.out 0).trans rfl; have gh : w58.cell? ⟨am, 1, none⟩ = some (.slice aC au.length ax) := (bC_ aa.out 1).trans rfl; have gi : w58.cell? ⟨am, 2, none⟩ = some (.string aq) := (bC_ aa.out 2).trans rfl; have gj : w58.cell? ⟨am, 3, none⟩ = some (.string ar) := (bC_ aa.out 3).trans rfl; have gl : w58.cell? ⟨am, 4, none⟩ = some (.slice aD av.length ay) := (bC_ aa.out 4).trans rfl; have gm : w58.cell? ⟨am, 5, none⟩ = some (.slice aG ad.length az) := (bC_ aa.out 5).trans rfl; have gn : w58.cell? ⟨am, 6, none⟩ = some (.slice aE al.length aA) := (bC_ aa.out 6).trans rfl; have go : w58.cell? ⟨am, 7, none⟩ = some (.string ap) := (bC_ aa.out 7).trans rfl; have gp := bF_ aa.out 0; have gq := bF_ aa.out 1; have gr := bF_ aa.out 2; have gs := bF_ aa.out 3; have gt := bF_ aa.out 4; have gu := bF_ aa.out 5; have gv := bF_ aa.out 6; have gw := bF_ aa.out 7) | ((with_reducible refine gate_callee (f := 80) rfl ?_); refine goesL_ (some 14) rfl rfl Tryz.func80 (by kernel_rfl) rfl #[.string ap] rfl Qm ?_; (with_reducible refine (r4_Split.calls k ap bo _ g5.out).mono ?_); rintro e w60 ⟨v287, rfl, ho0, hb⟩; refine ⟨_, rfl, ?_⟩; have aH := Aside0.mk (Kd.R_lower ho0 (wZ_ (Qv HB.out ai.out))); have aI := Aside0.mk (blk_below (g := am) (o := .cells #[.string ao, .slice aC au.length ax, .string aq, .string ar, .slice aD av.length ay, .slice aG ad.length az, .slice aE al.length aA, .string ap] 25 (0, 0)) (Qb aa.out) hb); have aJ := Aside0.mk (below_step (Qv HB.out ai.out) hb); clear aa; clear HB; have d5 := aH; have aa := aI; have HB := aJ; clear aH aI aJ; (try clear hb); (try clear ho0)))
  go_ret
  exact ⟨_, Qe, Qr d5.out, Qv HB.out ai.out⟩
end Go.Proofs.YtljadeeoaoiilaaGreatDoor.P
