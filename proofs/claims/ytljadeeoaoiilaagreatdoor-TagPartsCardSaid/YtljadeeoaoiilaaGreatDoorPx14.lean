-- Written for this claim by the session's own run of the print, functions proved by hand put in.
import Derived.Test.YtljadeeoaoiilaaGreatDoorSq
import Derived.Test.YtljadeeoaoiilaaGreatDoorPx0
import Derived.Test.YtljadeeoaoiilaaGreatDoorPx3
import Derived.Test.YtljadeeoaoiilaaGreatDoorPx13
namespace Go.Proofs.YtljadeeoaoiilaaGreatDoor.P
open Go.RowKit Go.Proofs.YtljadeeoaoiilaaGreatDoorW.PrintWords Go.Proofs.YtljadeeoaoiilaaGreatDoorW.PrintLast Go.Proofs.YtljadeeoaoiilaaGreatDoorW.PrintMore
open List renaming setIfInBounds_toArray → sA_, set_cons_zero → sB_, set_cons_succ → sC_
open Go.Proofs.YtljadeeoaoiilaaGreatDoorW.PrintWords renaming blk_alloc → bA_, blk_drewN → bN_, blk_drew → bD_, blk_cell → bC_, below_alloc → wA_, pw_below_drewN → wN_, below_drew1 → wD_, below_set → wS_, below_size → wZ_, below_step → wT_
open Go.Proofs.YtljadeeoaoiilaaGreatDoorW.PrintWords.Kd renaming R_alloc → rA_, R_drewN → rN_, R_drew → rD_, C_alloc → cA_, C_drewN → cN_, C_drew → cD_, C_below → cB_, R_mono → rM_, R_reads' → rR_
attribute [local go_sem] max2_int min2_int max_two min_two max_three min_three max_four min_four   -- for this text's walks alone
set_option linter.unusedVariables false
set_option linter.unusedSimpArgs false
def r6_small.l0 : Nat → List ByteArray → Int → ByteArray → List ByteArray → ByteArray → ByteArray → List ByteArray → List (S40) → List ByteArray → ByteArray → Option (Bool)
 | 0, _, _, _, _, _, _, _, _, _, _ => none
 | k + 1, x3, x4, aV, aW, aX, aY, aZ, a1, a2, aI => if x4 < (x3.length : Int) then (if 0 ≤ x4 then ((r2_Lower.f k (rdOf ByteArray.empty x3 x4)).bind fun aJ => (if (rdOf ByteArray.empty x3 x4).toList = aJ.toList then (r6_small.l0 k x3 (wrap64 (x4 + 1)) aV aW aX aY aZ a1 a2 aI) else (some false))) else (none)) else ((r2_Lower.f k aI).bind fun a3 => (some (aI.toList == a3.toList)))
def r6_small.f (k : Nat) (ad : ByteArray) (ag : List ByteArray) (ae : ByteArray) (af : ByteArray) (ah : List ByteArray) (ai : List (S40)) (aj : List ByteArray) (ak : ByteArray) : Option (Bool) := (r6_Subtags.f k ad ag ae af ah ai aj ak).bind fun aG => ((some (([ad, ae, af] : List ByteArray) : List ByteArray)).bind fun aH => (if aG.length + aH.length < 8796093022208 then (r6_small.l0 k (aG ++ aH) 0 ad ag ae af ah ai aj ak) else (none)))
def r6_small.T1 : Bool × List (List Nat × List Nat) := (true, [([], []), ([0], [0]), ([], []), ([2], [2]), ([], []), ([4], [4]), ([], []), ([6], [6]), ([3, 5, 7], [3, 5, 7]), ([1, 8, 1], [1, 8]), ([9, 9, 0, 1, 2, 3, 4, 5, 6, 7, 8, 9], [9])])
def r6_small.B1 : List Nat := [0, 1, 0, 4, 0, 16, 0, 64, 252, 511, 1023]
theorem r6_small.tab1 : rtab .any (opsOf Tryz.f34 1) = r6_small.T1 := by kernel_rfl
theorem r6_small.bits1 : waitsOk r6_small.T1.2 r6_small.B1 = true := by kernel_rfl
def r6_small.T5 : Bool × List (List Nat × List Nat) := (true, [([], []), ([], []), ([0, 1], [0, 1]), ([2], [2]), ([], []), ([], []), ([4, 5], [4, 5]), ([6], [6]), ([7], [7]), ([3, 8], [3, 8])])
def r6_small.B5 : List Nat := [0, 0, 3, 7, 0, 0, 48, 112, 240, 511]
theorem r6_small.tab5 : rtab .any (opsOf Tryz.f34 5) = r6_small.T5 := by kernel_rfl
theorem r6_small.bits5 : waitsOk r6_small.T5.2 r6_small.B5 = true := by kernel_rfl
set_option maxHeartbeats 8000000 in
set_option maxRecDepth 100000 in
theorem r6_small.calls (k : Nat) (ad : ByteArray) (ar : Option Addr) (au : Nat) (ag : List ByteArray) (ae : ByteArray) (af : ByteArray) (av : Option Addr) (aw : Nat) (ah : List ByteArray) (ax : Option Addr) (ay : Nat) (ai : List (S40)) (az : Option Addr) (aA : Nat) (aj : List ByteArray) (ak : ByteArray) (r : Bool) (w : World) (hr0_1 : Kd.C Kd.string w ar ag.length ag) (hc0_1 : ag.length ≤ au) (hr0_4 : Kd.C Kd.string w av ah.length ah) (hc0_4 : ah.length ≤ aw) (hr0_5 : Kd.C k40 w ax ai.length ai) (hc0_5 : ai.length ≤ ay) (hr0_6 : Kd.C Kd.string w az aj.length aj) (hc0_6 : aj.length ≤ aA) (h : r6_small.f k ad ag ae af ah ai aj ak = some r) :
  Calls Tryz.prog 34 #[.agg #[.string ad, .slice ar ag.length au, .string ae, .string af, .slice av ah.length aw, .slice ax ai.length ay, .slice az aj.length aA, .string ak]] w fun e w' => e = .returned (.bool r) ∧ Below w.heap.size w w' := by
 have hu25 := Tryz.underlying25
 have a5 := Aside0.mk hr0_1
 have a6 := Aside0.mk hc0_1
 clear hr0_1 hc0_1
 have a7 := Aside0.mk hr0_4
 have a8 := Aside0.mk hc0_4
 clear hr0_4 hc0_4
 have a9 := Aside0.mk hr0_5
 have ba := Aside0.mk hc0_5
 clear hr0_5 hc0_5
 have bb := Aside0.mk hr0_6
 have bc := Aside0.mk hc0_6
 clear hr0_6 hc0_6
 have HB := Aside0.mk (Below.refl w.heap.size w)
 have H := h; unfold r6_small.f at H
 clear h
 replace H := Option.bind_eq_some_iff.mp H
 obtain ⟨aG, bf, H⟩ := H
 try dsimp only at H
 have A2 := Aside0.mk bf
 clear bf
 obtain ⟨aH, aN⟩ : ∃ y_ : List ByteArray, y_ = (([ad, ae, af] : List ByteArray)) := ⟨_, rfl⟩
 replace H : (if aG.length + aH.length < 8796093022208 then (r6_small.l0 k (aG ++ aH) 0 ad ag ae af ah ai aj ak) else (none)) = some r := by first | (rw [aN]; with_reducible exact H) | (have H2_ := (Option.bind_some _ _).symm.trans H; rw [aN]; with_reducible exact H2_) | (have H2_ := (Option.bind_some _ _).symm.trans H; with_reducible exact H2_) | with_reducible exact H | (rw [aN]; exact H) | exact H
 have aT := Aside0.mk aN
 clear aN
 by_cases c3 : aG.length + aH.length < 8796093022208
 ·rw [if_pos c3] at H
  have bv := Aside0.mk c3
  clear c3
  obtain ⟨ap, aP⟩ : ∃ y_ : List ByteArray, y_ = (aG ++ aH) := ⟨_, rfl⟩
  replace H : (r6_small.l0 k ap 0 ad ag ae af ah ai aj ak) = some r := by first | (rw [aP]; with_reducible exact H) | (have H2_ := (Option.bind_some _ _).symm.trans H; rw [aP]; with_reducible exact H2_) | (have H2_ := (Option.bind_some _ _).symm.trans H; with_reducible exact H2_) | with_reducible exact H | (rw [aP]; exact H) | exact H
  have bg := Aside0.mk aP
  clear aP
  have H' := Aside0.mk H
  clear H
  go_enter Tryz.func34, Tryz.ntmps34
  try go_wp2_with (first | ((with_reducible refine gate_dst (N := 1) rfl ?_); refine box_event ?hg (N := 1) ?hd (cs := #[.string ad, .slice ar ag.length au, .string ae, .string af, .slice av ah.length aw, .slice ax ai.length ay, .slice az aj.length aA, .string ak]) (t := 25) ?hr ?_; (case hd => rfl); (case hg => rfl); (case hr => first | (go_simp; done) | (go_simp; rfl)); intro ab hg w4 hbox hb; have al := Aside0.mk (wT_ (Qw HB.out) hb); have am := Aside0.mk (hbox); have aC := Aside0.mk ((by rw [hg]; exact (wZ_ (Qw HB.out)) : w.heap.size ≤ ab)); have aU := Aside0.mk ((by rw [hg]; exact (wZ_ (Qw HB.out)) : w.heap.size ≤ ab)); clear HB; have HB := al; have aa := am; have GW323 := aC; have ao := aU; clear al am aC aU; clear hb hbox hg))
  have al := Aside0.mk (bD_ aa.out)
  have am := Aside0.mk (wD_ HB.out)
  clear aa HB
  have aa := al; have HB := am
  clear al am
  refine start_ (n := 11) (S := fun w' => w'.cell? ⟨ab, 0, none⟩ = some (.string ad) ∧ w'.cell? ⟨ab, 1, none⟩ = some (.slice ar ag.length au) ∧ w'.cell? ⟨ab, 2, none⟩ = some (.string ae) ∧ w'.cell? ⟨ab, 3, none⟩ = some (.string af) ∧ w'.cell? ⟨ab, 4, none⟩ = some (.slice av ah.length aw) ∧ w'.cell? ⟨ab, 5, none⟩ = some (.slice ax ai.length ay) ∧ w'.cell? ⟨ab, 6, none⟩ = some (.slice az aj.length aA) ∧ w'.cell? ⟨ab, 7, none⟩ = some (.string ak)) (ds := []) #[false, false, false, false, false, false, false, false, false, false, false] (by kernel_rfl) rfl rfl (C8_ aa.out) (fun hHeld => ?_); refine with_tabW r6_small.tab1 r6_small.bits1 (fun HT_ HW_ => ?_)
  generalize w4.drew = w5 at aa HB hHeld ⊢
  refine pu_ (i := 2) (N := some 7) HT_ (bl_ 11 4) ?_
  refine pu_ (i := 4) (N := some 9) HT_ (bl_ 11 20) ?_
  refine pu_ (i := 6) (N := some 11) HT_ (bl_ 11 84) ?_
  refine tk_ (i := 0) (N := some 5) HT_ HW_ (bl_ 11 85) hHeld ?_ (hy := by rintro w' ⟨s0, s1, s2, s3, s4, s5, s6, s7⟩; go_simp; with_reducible rfl)
  refine tk_ (i := 3) (N := some 8) HT_ HW_ (bl_ 11 93) hHeld ?_ (hy := by rintro w' ⟨s0, s1, s2, s3, s4, s5, s6, s7⟩; go_simp; with_reducible rfl)
  refine tk_ (i := 5) (N := some 10) HT_ HW_ (bl_ 11 125) hHeld ?_ (hy := by rintro w' ⟨s0, s1, s2, s3, s4, s5, s6, s7⟩; go_simp; with_reducible rfl)
  refine tk_ (i := 7) (N := some 12) HT_ HW_ (bl_ 11 253) hHeld ?_ (hy := by rintro w' ⟨s0, s1, s2, s3, s4, s5, s6, s7⟩; go_simp; with_reducible rfl)
  refine join_ (σ := Value × Value) 2 #[true, true, true, true, true, true, true, true, true, false, false] (fun s_ => [(6, s_.1), (13, s_.2)]) (fun s_ w' => (w'.cell? ⟨ab, 0, none⟩ = some (.string ad) ∧ w'.cell? ⟨ab, 1, none⟩ = some (.slice ar ag.length au) ∧ w'.cell? ⟨ab, 2, none⟩ = some (.string ae) ∧ w'.cell? ⟨ab, 3, none⟩ = some (.string af) ∧ w'.cell? ⟨ab, 4, none⟩ = some (.slice av ah.length aw) ∧ w'.cell? ⟨ab, 5, none⟩ = some (.slice ax ai.length ay) ∧ w'.cell? ⟨ab, 6, none⟩ = some (.slice az aj.length aA) ∧ w'.cell? ⟨ab, 7, none⟩ = some (.string ak)) ∧ (Kd.R Kd.string 9 w' w.heap.size (fun k_ => some k_ ≠ (s_.2 : Value).ownBlock) s_.1 aG) ∧ (Kd.R Kd.string 9 w' w.heap.size (fun k_ => some k_ ≠ (s_.1 : Value).ownBlock) s_.2 aH) ∧ (w'.heap[ab]? = some (.cells #[.string ad, .slice ar ag.length au, .string ae, .string af, .slice av ah.length aw, .slice ax ai.length ay, .slice az aj.length aA, .string ak] 25 (0, 0))) ∧ (Below w.heap.size w w')) ?_ ?_
  rotate_left
  ·intro hCont
   refine two_ (i := 1) (j := 8) (Ni := some 6) (Nj := some 13) #[true, true, true, true, true, true, true, true, false, false, false] #[true, false, true, true, true, true, true, true, true, false, false] rfl rfl rfl rfl (two_of HT_.out (by kernel_rfl)) (by decide) (by decide) (fun K hK => ?_) (fun K hK => ?_)
   ·skip
    refine goes_ Tryz.func43 (by kernel_rfl) rfl #[.agg #[.string ad, .slice ar ag.length au, .string ae, .string af, .slice av ah.length aw, .slice ax ai.length ay, .slice az aj.length aA, .string ak]] (by rfl) rfl rfl Qm ?_
    with_reducible refine (r6_Subtags.calls k ad _ _ ag ae af _ _ ah _ _ ai _ _ aj ak aG _ ?side1 ?side2 ?side3 ?side4 ?side5 ?side6 ?side7 ?side8 A2.out).mono ?_
    (case side1 => exact Qc (cB_ a5.out HB.out))
    (case side2 => exact a6.out)
    (case side3 => exact Qc (cB_ a7.out HB.out))
    (case side4 => exact a8.out)
    (case side5 => exact Qc (cB_ a9.out HB.out))
    (case side6 => exact ba.out)
    (case side7 => exact Qc (cB_ bb.out HB.out))
    (case side8 => exact bc.out)
    rintro e w6 ⟨v325, rfl, ho0, hb⟩
    refine ⟨_, rfl, ?_⟩
    have al := Aside0.mk (Kd.R_lower ho0 (wZ_ (Qv HB.out ao.out)))
    have am := Aside0.mk (blk_below (g := ab) (o := .cells #[.string ad, .slice ar ag.length au, .string ae, .string af, .slice av ah.length aw, .slice ax ai.length ay, .slice az aj.length aA, .string ak] 25 (0, 0)) (Qb aa.out) hb)
    have aC := Aside0.mk (wT_ (Qv HB.out ao.out) hb)
    clear aa HB
    have aD := al; have aa := am; have HB := aC
    clear al am aC
    (try clear hb); (try clear hb2); (try clear hk); (try clear hi); (try clear ho0)
    refine hK.out _ _ (C8_ aa.out) (fun hHeld => ?_)
    clear hK K
    refine nm_ (some 6) ?_
    refine on_ (i := 8) (N := some 13) HT_ (bl_ 11 511) rfl rfl (fun K hK => ?_)
    refine Kd.R_lit_step Kd.string _ 9 ?hg (N := 13) ?hd (xs := ([ad, ae, af] : List ByteArray)) (inner := [.string ad, .string ae, .string af]) (ok := fun _ => True) (okp := fun _ => True) ?hr ?hp (fun _ hk => hk) trivial (Below.refl _ _) (Nat.le_refl _) (by simp) ?_; (case hd => rfl); (case hg => rfl); (case hr => first | (go_simp; done) | (go_simp; rfl)); (case hp => exact (Reps.one (show Kd.M Kd.string _ _ _ ad [.string ad] from rfl) (Reps.one (show Kd.M Kd.string _ _ _ ae [.string ae] from rfl) (Reps.one (show Kd.M Kd.string _ _ _ af [.string af] from rfl) (Reps.none _ _)))))
    intro v328 w7 ho8 hb hg_ hnew_
    clear hg_ hnew_
    (first | rw [← aT.out] at ho8 | (simp only [Int.reduceToNat] at ho8; rw [← aT.out] at ho8))
    have al := Aside0.mk (Kd.R_elder' (Qr aD.out) (Kd.R_base ho8) hb)
    have am := Aside0.mk (Kd.R_lower (Kd.R_new' ho8 (Kd.R_lt (Qr aD.out))) (wZ_ (Qv HB.out ao.out)))
    have aC := Aside0.mk (blk_below (g := ab) (o := .cells #[.string ad, .slice ar ag.length au, .string ae, .string af, .slice av ah.length aw, .slice ax ai.length ay, .slice az aj.length aA, .string ak] 25 (0, 0)) (Qb aa.out) hb)
    have aU := Aside0.mk (wT_ (Qv HB.out ao.out) hb)
    clear aD aa HB
    have aD := al; have aq := am; have aa := aC; have HB := aU
    clear al am aC aU hb ho8
    refine hK.out _ _ (C8_ aa.out) (fun hHeld => ?_)
    clear hK K
    refine nm_ (some 13) ?_
    exact norm_ (by simp only [putAll, Act.put, sA_, sB_, sC_]) (hCont (v325, v328) _ ⟨hHeld, (by (with_reducible repeat (first | apply rA_ | apply rN_ | apply rD_)); exact rM_ aD.out (fun _ hk => hk.2)), (by (with_reducible repeat (first | apply rA_ | apply rN_ | apply rD_)); exact rM_ aq.out (fun _ hk => hk.2)), (Qb aa.out), (Qv HB.out ao.out)⟩)
   ·skip
    refine Kd.R_lit_step Kd.string _ 9 ?hg (N := 13) ?hd (xs := ([ad, ae, af] : List ByteArray)) (inner := [.string ad, .string ae, .string af]) (ok := fun _ => True) (okp := fun _ => True) ?hr ?hp (fun _ hk => hk) trivial (Below.refl _ _) (Nat.le_refl _) (by simp) ?_; (case hd => rfl); (case hg => rfl); (case hr => first | (go_simp; done) | (go_simp; rfl)); (case hp => exact (Reps.one (show Kd.M Kd.string _ _ _ ad [.string ad] from rfl) (Reps.one (show Kd.M Kd.string _ _ _ ae [.string ae] from rfl) (Reps.one (show Kd.M Kd.string _ _ _ af [.string af] from rfl) (Reps.none _ _)))))
    intro v328 w6 ho7 hb hg_ hnew_
    clear hg_ hnew_
    (first | rw [← aT.out] at ho7 | (simp only [Int.reduceToNat] at ho7; rw [← aT.out] at ho7))
    have al := Aside0.mk (Kd.R_lower ho7 (wZ_ (Qv HB.out ao.out)))
    have am := Aside0.mk (blk_below (g := ab) (o := .cells #[.string ad, .slice ar ag.length au, .string ae, .string af, .slice av ah.length aw, .slice ax ai.length ay, .slice az aj.length aA, .string ak] 25 (0, 0)) (Qb aa.out) hb)
    have aC := Aside0.mk (wT_ (Qv HB.out ao.out) hb)
    clear aa HB
    have aq := al; have aa := am; have HB := aC
    clear al am aC hb ho7
    refine hK.out _ _ (C8_ aa.out) (fun hHeld => ?_)
    clear hK K
    refine nm_ (some 13) ?_
    refine on_ (i := 1) (N := some 6) HT_ (bl_ 11 511) rfl rfl (fun K hK => ?_)
    refine goes_ Tryz.func43 (by kernel_rfl) rfl #[.agg #[.string ad, .slice ar ag.length au, .string ae, .string af, .slice av ah.length aw, .slice ax ai.length ay, .slice az aj.length aA, .string ak]] (by rfl) rfl rfl Qm ?_
    with_reducible refine (r6_Subtags.calls k ad _ _ ag ae af _ _ ah _ _ ai _ _ aj ak aG _ ?side1 ?side2 ?side3 ?side4 ?side5 ?side6 ?side7 ?side8 A2.out).mono ?_
    (case side1 => exact Qc (cB_ a5.out HB.out))
    (case side2 => exact a6.out)
    (case side3 => exact Qc (cB_ a7.out HB.out))
    (case side4 => exact a8.out)
    (case side5 => exact Qc (cB_ a9.out HB.out))
    (case side6 => exact ba.out)
    (case side7 => exact Qc (cB_ bb.out HB.out))
    (case side8 => exact bc.out)
    rintro e w8 ⟨v325, rfl, ho0, hb⟩
    refine ⟨_, rfl, ?_⟩
    have al := Aside0.mk (Kd.R_elder' (Qr aq.out) (Kd.R_base ho0) hb)
    have am := Aside0.mk (Kd.R_lower (Kd.R_new' ho0 (Kd.R_lt (Qr aq.out))) (wZ_ (Qv HB.out ao.out)))
    have aC := Aside0.mk (blk_below (g := ab) (o := .cells #[.string ad, .slice ar ag.length au, .string ae, .string af, .slice av ah.length aw, .slice ax ai.length ay, .slice az aj.length aA, .string ak] 25 (0, 0)) (Qb aa.out) hb)
    have aU := Aside0.mk (wT_ (Qv HB.out ao.out) hb)
    clear aq aa HB
    have aq := al; have aD := am; have aa := aC; have HB := aU
    clear al am aC aU
    (try clear hb); (try clear hb2); (try clear hk); (try clear hi); (try clear ho0)
    refine hK.out _ _ (C8_ aa.out) (fun hHeld => ?_)
    clear hK K
    refine nm_ (some 6) ?_
    exact norm_ (by simp only [putAll, Act.put, sA_, sB_, sC_]) (hCont (v325, v328) _ ⟨hHeld, (by (with_reducible repeat (first | apply rA_ | apply rN_ | apply rD_)); exact rM_ aD.out (fun _ hk => hk.2)), (by (with_reducible repeat (first | apply rA_ | apply rN_ | apply rD_)); exact rM_ aq.out (fun _ hk => hk.2)), (Qb aa.out), (Qv HB.out ao.out)⟩)
  rintro ⟨v325, v328⟩ w9 ⟨hS_, h0_, h1_, h2_, h3_⟩
  have al : Aside0 (Kd.R Kd.string 9 w9 w.heap.size (fun k_ => some k_ ≠ (v328 : Value).ownBlock) v325 aG) := ⟨h0_⟩
  have am : Aside0 (Kd.R Kd.string 9 w9 w.heap.size (fun k_ => some k_ ≠ (v325 : Value).ownBlock) v328 aH) := ⟨h1_⟩
  have aC : Aside0 (w9.heap[ab]? = some (.cells #[.string ad, .slice ar ag.length au, .string ae, .string af, .slice av ah.length aw, .slice ax ai.length ay, .slice az aj.length aA, .string ak] 25 (0, 0))) := ⟨h2_⟩
  have aU : Aside0 (Below w.heap.size w w9) := ⟨h3_⟩
  clear aa HB h0_ h1_ h2_ h3_
  have aD := al; have aq := am; have aa := aC; have HB := aU
  clear al am aC aU
  have hHeld : w9.cell? ⟨ab, 0, none⟩ = some (.string ad) ∧ w9.cell? ⟨ab, 1, none⟩ = some (.slice ar ag.length au) ∧ w9.cell? ⟨ab, 2, none⟩ = some (.string ae) ∧ w9.cell? ⟨ab, 3, none⟩ = some (.string af) ∧ w9.cell? ⟨ab, 4, none⟩ = some (.slice av ah.length aw) ∧ w9.cell? ⟨ab, 5, none⟩ = some (.slice ax ai.length ay) ∧ w9.cell? ⟨ab, 6, none⟩ = some (.slice az aj.length aA) ∧ w9.cell? ⟨ab, 7, none⟩ = some (.string ak) := hS_
  obtain ⟨Ao11, co11, eo11⟩ := Kd.R_slice aq.out
  (first | subst eo11 | (injection eo11 with f1_ f2_ f3_; have f4_ := f1_.symm; have f5_ := f3_.symm; clear f1_ f2_ f3_; subst f4_; subst f5_))
  refine norm_ (a' := ?_) ?_ ?_
  rotate_left
  ·simp only [putAll, Act.put, sA_, sB_, sC_]
   rfl
  refine on_ (i := 9) (N := some 14) HT_ (bl_ 11 1023) rfl rfl (fun K hK => ?_)
  refine Kd.R_append_rows_step Kd.string (w0 := w) w.heap.size (by rfl) (.tmp 6) (.tmp 13) 22 9 (.string ⟨#[]⟩) 16 rfl Tryz.underlying22 info9 rfl (by decide) (by omega) v325 aG aH _ _ _ (fun k_ => some k_ ≠ (.slice Ao11 aH.length co11 : Value).ownBlock) (fun _ => False) rfl rfl ?aO ?aR (fun _ _ h => h) (fun _ h => h.elim) ?aF ?aB ?aS ?aL ?_
  (case aR => repeat (first | exact (rR_ aq.out).2.2 | (with_reducible refine cA_ ?_ _) | (with_reducible refine cN_ ?_ _) | (with_reducible refine cD_ ?_)))
  (case aB => exact (Qv HB.out ao.out))
  (case aF => exact (fun k_ hk => Kd.fresh' (Kd.R_lt (Qr aq.out)) k_ hk))
  (case aO => exact (Qr aD.out))
  (case aS => exact (wZ_ (Qv HB.out ao.out)))
  (case aL => have := bv.out; omega)
  intro v331 w10 ho hb hg hat
  rw [← bg.out] at ho
  have al := Aside0.mk (blk_grown (g := ab) (o := .cells #[.string ad, .slice ar ag.length au, .string ae, .string af, .slice av ah.length aw, .slice ax ai.length ay, .slice az aj.length aA, .string ak] 25 (0, 0)) (Qb aa.out) hg (Kd.R_ne aD.out aa.out (by decide)))
  have am := Aside0.mk (Kd.R_after (ok := (fun _ => True)) (by (with_reducible repeat (first | apply rA_ | apply rN_ | apply rD_)); exact rM_ aq.out (fun _ hk => ⟨trivial, hk⟩)) hg hat)
  have aC := Aside0.mk (hb)
  have aU := Aside0.mk (ho)
  clear aa aq HB aD
  have aa := al; have aq := am; have HB := aC; have bh := aU
  clear al am aC aU ho hb hg hat
  refine hK.out _ _ (C8_ aa.out) (fun hHeld => ?_)
  clear hK K
  refine nm_ (some 14) ?_
  refine pu_ (i := 10) (N := some 3) HT_ (bl_ 11 2047) ?_
  refine done_ (done_of HT_.out (by kernel_rfl)) ?_
  try go_wp2
  go_loopg [4] k (fun kq v4 w' => ∃ (ac : Int), v4 = .int .i64 ac ∧ Aside0 (r6_small.l0 kq ap ac ad ag ae af ah ai aj ak = some r) ∧ Aside0 (kq ≤ k) ∧ Aside0 (Kd.R Kd.string 9 w' w.heap.size (fun _ => True) v331 ap) ∧ Aside0 (w'.heap[ab]? = some (.cells #[.string ad, (.slice ar ag.length au), .string ae, .string af, (.slice av ah.length aw), (.slice ax ai.length ay), (.slice az aj.length aA), .string ak] 25 (0, 0))) ∧ Aside0 (Below w.heap.size w w'))
  case atStart => exact ⟨(0), Qs, H', ⟨Nat.le_refl _⟩, ⟨by (with_reducible repeat (first | apply rA_ | apply rN_ | apply rD_)); exact rM_ bh.out (fun _ hk => trivial)⟩, ⟨Qb aa.out⟩, ⟨Qv HB.out ao.out⟩⟩
  case round =>
   clear H'
   obtain ⟨ac, rfl, HA, HK1, HO_3, aa, HB⟩ := hrel
   cases gk with
   | zero => exact absurd HA.out (by simp [r6_small.l0])
   | succ k1 =>
    have H := HA.out
    clear HA
    simp only [r6_small.l0] at H
    by_cases c12 : ac < (ap.length : Int)
    ·rw [if_pos c12] at H
     have bi : decide (ac < (ap.length : Int)) = true := decide_eq_true c12
     clear c12
     by_cases c13 : 0 ≤ ac
     ·rw [if_pos c13] at H
      have bA : decide (0 ≤ ac) = true := decide_eq_true c13
      clear c13
      replace H := Option.bind_eq_some_iff.mp H
      obtain ⟨aJ, bj, H⟩ := H
      try dsimp only at H
      have bB := Aside0.mk bj
      clear bj
      by_cases c15 : (rdOf ByteArray.empty ap ac).toList = aJ.toList
      ·rw [if_pos c15] at H
       have bk : ((rdOf ByteArray.empty ap ac).toList == aJ.toList) = true := beq_iff_eq.mpr c15
       have bm : ((rdOf ByteArray.empty ap ac).toList != aJ.toList) = false := bne_eq_false_iff_eq.mpr c15
       clear c15
       have H' := Aside0.mk H
       clear H
       obtain ⟨Ao16, co16, eo16⟩ := Kd.R_slice HO_3.out
       subst eo16
       try go_wp2
       have al := Aside0.mk (rD_ HO_3.out)
       have am := Aside0.mk (bD_ aa.out)
       have aC := Aside0.mk (wD_ HB.out)
       clear HO_3 aa HB
       have HO_3 := al; have aa := am; have HB := aC
       clear al am aC
       have p333 : 0 ≤ (ac : Int) := of_decide_eq_true Qa
       have q333 : ac < (ap.length : Int) := of_decide_eq_true Qa
       obtain ⟨ad333, e333, hx333_0⟩ := Kd.at_string (rR_ HO_3.out).2.2 ac p333 q333
       cases e333
       replace p333 := eq_true p333
       replace q333 := eq_true q333
       have p334 : 0 ≤ (ac : Int) := of_decide_eq_true Qa
       have q334 : ac < (ap.length : Int) := of_decide_eq_true Qa
       obtain ⟨ad334, e334, hx334_0⟩ := Kd.at_string (rR_ HO_3.out).2.2 ac p334 q334
       obtain rfl : ad333 = ad334 := (by injection e334)
       replace p334 := eq_true p334
       replace q334 := eq_true q334
       refine start_ (n := 10) (S := fun w' => w'.cell? (ad333.add (ac).toNat) = some (.string (rdOf ByteArray.empty ap ac)) ∧ w'.cell? (ad333.add (ac).toNat) = some (.string (rdOf ByteArray.empty ap ac))) (ds := []) #[false, false, false, false, false, false, false, false, false, false] (by kernel_rfl) rfl rfl ⟨hx333_0, hx334_0⟩ (fun hHeld => ?_); refine with_tabW r6_small.tab5 r6_small.bits5 (fun HT_ HW_ => ?_)
       generalize wr.drew = w17 at HO_3 aa HB hx333_0 hx334_0 hHeld ⊢
       refine pu_ (i := 0) (N := some 21) HT_ (bl_ 10 1) ?_
       refine pu_ (i := 1) (N := some 22) HT_ (bl_ 10 3) ?_
       refine pu_ (i := 2) (N := some 23) HT_ (bl_ 10 7) ?_
       refine pu_ (i := 4) (N := some 25) HT_ (bl_ 10 23) ?_
       refine pu_ (i := 5) (N := some 26) HT_ (bl_ 10 55) ?_
       refine pu_ (i := 6) (N := some 27) HT_ (bl_ 10 119) ?_
       refine tk_ (i := 3) (N := some 24) HT_ HW_ (bl_ 10 127) hHeld ?_ (hy := by rintro w' ⟨s0, s1⟩; go_simp; with_reducible rfl)
       refine tk_ (i := 7) (N := some 28) HT_ HW_ (bl_ 10 255) hHeld ?_ (hy := by rintro w' ⟨s0, s1⟩; go_simp; with_reducible rfl)
       refine on_ (i := 8) (N := some 29) HT_ (bl_ 10 511) rfl rfl (fun K hK => ?_)
       refine goes_ Tryz.func74 (by kernel_rfl) rfl #[.string (rdOf ByteArray.empty ap ac)] (by rfl) rfl rfl Qm ?_
       with_reducible refine (r2_Lower.calls k1 (rdOf ByteArray.empty ap ac) aJ _ bB.out).mono ?_
       rintro e w18 ⟨rfl, hb⟩
       have HS0_ := (hb.cell (World.block_lt_of_cell? _ _ (hHeld.1))).trans (hHeld.1)
       have HS1_ := (hb.cell (World.block_lt_of_cell? _ _ (hHeld.2))).trans (hHeld.2)
       refine ⟨_, rfl, ?_⟩
       have al := Aside0.mk (Kd.R_below (Qr HO_3.out) hb)
       have am := Aside0.mk (blk_below (g := ab) (o := .cells #[.string ad, .slice ar ag.length au, .string ae, .string af, .slice av ah.length aw, .slice ax ai.length ay, .slice az aj.length aA, .string ak] 25 (0, 0)) (Qb aa.out) hb)
       have aC := Aside0.mk (wT_ (Qv HB.out ao.out) hb)
       clear HO_3 aa HB
       have HO_3 := al; have aa := am; have HB := aC
       clear al am aC
       (try clear hb); (try clear hb2); (try clear hk); (try clear hi)
       refine hK.out _ _ ⟨HS0_, HS1_⟩ (fun hHeld => ?_)
       clear hK K
       refine nm_ (some 29) ?_
       refine pu_ (i := 9) (N := some 30) HT_ (bl_ 10 1023) ?_
       refine done_ (done_of HT_.out (by kernel_rfl)) ?_
       try go_wp2
       go_roundg k1
       case measure => have := HK1.out; omega
       case rel => exact ⟨(wrap64 (ac + 1)), Qs, H', ⟨by have := HK1.out; omega⟩, ⟨Qr HO_3.out⟩, ⟨Qb aa.out⟩, ⟨Qv HB.out ao.out⟩⟩
      ·rw [if_neg c15] at H
       have bk : ((rdOf ByteArray.empty ap ac).toList == aJ.toList) = false := beq_eq_false_iff_ne.mpr c15
       have bm : ((rdOf ByteArray.empty ap ac).toList != aJ.toList) = true := bne_iff_ne.mpr c15
       obtain rfl := Option.some.inj H
       obtain ⟨Ao19, co19, eo19⟩ := Kd.R_slice HO_3.out
       subst eo19
       try go_wp2
       have al := Aside0.mk (rD_ HO_3.out)
       have am := Aside0.mk (bD_ aa.out)
       have aC := Aside0.mk (wD_ HB.out)
       clear HO_3 aa HB
       have HO_3 := al; have aa := am; have HB := aC
       clear al am aC
       have p333 : 0 ≤ (ac : Int) := of_decide_eq_true Qa
       have q333 : ac < (ap.length : Int) := of_decide_eq_true Qa
       obtain ⟨ad333, e333, hx333_0⟩ := Kd.at_string (rR_ HO_3.out).2.2 ac p333 q333
       cases e333
       replace p333 := eq_true p333
       replace q333 := eq_true q333
       have p334 : 0 ≤ (ac : Int) := of_decide_eq_true Qa
       have q334 : ac < (ap.length : Int) := of_decide_eq_true Qa
       obtain ⟨ad334, e334, hx334_0⟩ := Kd.at_string (rR_ HO_3.out).2.2 ac p334 q334
       obtain rfl : ad333 = ad334 := (by injection e334)
       replace p334 := eq_true p334
       replace q334 := eq_true q334
       refine start_ (n := 10) (S := fun w' => w'.cell? (ad333.add (ac).toNat) = some (.string (rdOf ByteArray.empty ap ac)) ∧ w'.cell? (ad333.add (ac).toNat) = some (.string (rdOf ByteArray.empty ap ac))) (ds := []) #[false, false, false, false, false, false, false, false, false, false] (by kernel_rfl) rfl rfl ⟨hx333_0, hx334_0⟩ (fun hHeld => ?_); refine with_tabW r6_small.tab5 r6_small.bits5 (fun HT_ HW_ => ?_)
       generalize wr.drew = w20 at HO_3 aa HB hx333_0 hx334_0 hHeld ⊢
       refine pu_ (i := 0) (N := some 21) HT_ (bl_ 10 1) ?_
       refine pu_ (i := 1) (N := some 22) HT_ (bl_ 10 3) ?_
       refine pu_ (i := 2) (N := some 23) HT_ (bl_ 10 7) ?_
       refine pu_ (i := 4) (N := some 25) HT_ (bl_ 10 23) ?_
       refine pu_ (i := 5) (N := some 26) HT_ (bl_ 10 55) ?_
       refine pu_ (i := 6) (N := some 27) HT_ (bl_ 10 119) ?_
       refine tk_ (i := 3) (N := some 24) HT_ HW_ (bl_ 10 127) hHeld ?_ (hy := by rintro w' ⟨s0, s1⟩; go_simp; with_reducible rfl)
       refine tk_ (i := 7) (N := some 28) HT_ HW_ (bl_ 10 255) hHeld ?_ (hy := by rintro w' ⟨s0, s1⟩; go_simp; with_reducible rfl)
       refine on_ (i := 8) (N := some 29) HT_ (bl_ 10 511) rfl rfl (fun K hK => ?_)
       refine goes_ Tryz.func74 (by kernel_rfl) rfl #[.string (rdOf ByteArray.empty ap ac)] (by rfl) rfl rfl Qm ?_
       with_reducible refine (r2_Lower.calls k1 (rdOf ByteArray.empty ap ac) aJ _ bB.out).mono ?_
       rintro e w21 ⟨rfl, hb⟩
       have HS0_ := (hb.cell (World.block_lt_of_cell? _ _ (hHeld.1))).trans (hHeld.1)
       have HS1_ := (hb.cell (World.block_lt_of_cell? _ _ (hHeld.2))).trans (hHeld.2)
       refine ⟨_, rfl, ?_⟩
       have al := Aside0.mk (Kd.R_below (Qr HO_3.out) hb)
       have am := Aside0.mk (blk_below (g := ab) (o := .cells #[.string ad, .slice ar ag.length au, .string ae, .string af, .slice av ah.length aw, .slice ax ai.length ay, .slice az aj.length aA, .string ak] 25 (0, 0)) (Qb aa.out) hb)
       have aC := Aside0.mk (wT_ (Qv HB.out ao.out) hb)
       clear HO_3 aa HB
       have HO_3 := al; have aa := am; have HB := aC
       clear al am aC
       (try clear hb); (try clear hb2); (try clear hk); (try clear hi)
       refine hK.out _ _ ⟨HS0_, HS1_⟩ (fun hHeld => ?_)
       clear hK K
       refine nm_ (some 29) ?_
       refine pu_ (i := 9) (N := some 30) HT_ (bl_ 10 1023) ?_
       refine done_ (done_of HT_.out (by kernel_rfl)) ?_
       try go_wp2
       go_ret
       exact ⟨Qe, Qv HB.out ao.out⟩
     ·rw [if_neg c13] at H
      exact absurd H (by simp)
    ·rw [if_neg c12] at H
     have bi : decide (ac < (ap.length : Int)) = false := decide_eq_false c12
     clear c12
     replace H := Option.bind_eq_some_iff.mp H
     obtain ⟨a3, bn, H⟩ := H
     replace H : (some (ak.toList == a3.toList)) = some r := H
     have bE := Aside0.mk bn
     clear bn
     obtain rfl := Option.some.inj H
     obtain ⟨Ao23, co23, eo23⟩ := Kd.R_slice HO_3.out
     subst eo23
     try go_wp2
     have al := Aside0.mk (rD_ HO_3.out)
     have am := Aside0.mk (bD_ aa.out)
     have aC := Aside0.mk (wD_ HB.out)
     clear HO_3 aa HB
     have HO_3 := al; have aa := am; have HB := aC
     clear al am aC
     refine start_ (n := 7) (S := fun w' => w'.cell? ⟨ab, 0, none⟩ = some (.string ad) ∧ w'.cell? ⟨ab, 1, none⟩ = some (.slice ar ag.length au) ∧ w'.cell? ⟨ab, 2, none⟩ = some (.string ae) ∧ w'.cell? ⟨ab, 3, none⟩ = some (.string af) ∧ w'.cell? ⟨ab, 4, none⟩ = some (.slice av ah.length aw) ∧ w'.cell? ⟨ab, 5, none⟩ = some (.slice ax ai.length ay) ∧ w'.cell? ⟨ab, 6, none⟩ = some (.slice az aj.length aA) ∧ w'.cell? ⟨ab, 7, none⟩ = some (.string ak)) (ds := []) #[false, false, false, false, false, false, false] (by kernel_rfl) rfl rfl (C8_ aa.out) (fun hHeld => ?_)
     generalize wr.drew = w24 at HO_3 aa HB hHeld ⊢
     refine pure_ (i := 0) (N := some 31) (v := ?_) (a' := ?_) #[true, false, false, false, false, false, false] rfl rfl (by kernel_rfl) (fun _ _ _ h => h) (Or.inl ⟨by rfl, ?_⟩) ?_ ?_
     rotate_left
     ·intro w'
      go_simp
      with_reducible rfl
     rotate_left
     ·simp only [Act.put, sA_, sB_, sC_, i64_w, i32_w]
      rfl
     refine pure_ (i := 2) (N := some 33) (v := ?_) (a' := ?_) #[true, false, true, false, false, false, false] rfl rfl (by kernel_rfl) (fun _ _ _ h => h) (Or.inl ⟨by rfl, ?_⟩) ?_ ?_
     rotate_left
     ·intro w'
      go_simp
      with_reducible rfl
     rotate_left
     ·simp only [Act.put, sA_, sB_, sC_, i64_w, i32_w]
      rfl
     refine take_ (i := 1) (N := some 32) (v := ?_) (a' := ?_) #[true, true, true, false, false, false, false] rfl rfl (by kernel_rfl) (fun _ _ _ h => h) (Or.inl ⟨by rfl, ?_⟩) hHeld ?_ ?_
     rotate_left
     ·rintro w' ⟨s0, s1, s2, s3, s4, s5, s6, s7⟩
      go_simp
      with_reducible rfl
     rotate_left
     ·simp only [Act.put, sA_, sB_, sC_, i64_w, i32_w]
      rfl
     refine take_ (i := 3) (N := some 34) (v := ?_) (a' := ?_) #[true, true, true, true, false, false, false] rfl rfl (by kernel_rfl) (fun _ _ _ h => h) (Or.inl ⟨by rfl, ?_⟩) hHeld ?_ ?_
     rotate_left
     ·rintro w' ⟨s0, s1, s2, s3, s4, s5, s6, s7⟩
      go_simp
      with_reducible rfl
     rotate_left
     ·simp only [Act.put, sA_, sB_, sC_, i64_w, i32_w]
      rfl
     refine one_ (i := 4) (N := some 35) #[true, true, true, true, true, false, false] rfl rfl (by kernel_rfl) (by decide) (fun K hK => ?_)
     refine goes_ Tryz.func74 (by kernel_rfl) rfl #[.string ak] (by rfl) rfl rfl Qm ?_
     with_reducible refine (r2_Lower.calls k1 ak a3 _ bE.out).mono ?_
     rintro e w25 ⟨rfl, hb⟩
     refine ⟨_, rfl, ?_⟩
     have al := Aside0.mk (Kd.R_below (Qr HO_3.out) hb)
     have am := Aside0.mk (blk_below (g := ab) (o := .cells #[.string ad, .slice ar ag.length au, .string ae, .string af, .slice av ah.length aw, .slice ax ai.length ay, .slice az aj.length aA, .string ak] 25 (0, 0)) (Qb aa.out) hb)
     have aC := Aside0.mk (wT_ (Qv HB.out ao.out) hb)
     clear HO_3 aa HB
     have HO_3 := al; have aa := am; have HB := aC
     clear al am aC
     (try clear hb); (try clear hb2); (try clear hk); (try clear hi)
     refine hK.out _ _ (C8_ aa.out) (fun hHeld => ?_)
     clear hK K
     refine nm_ (some 35) ?_
     refine pure_ (i := 5) (N := some 36) (v := ?_) (a' := ?_) #[true, true, true, true, true, true, false] rfl rfl (by kernel_rfl) (fun _ _ _ h => h) (Or.inl ⟨by rfl, ?_⟩) ?_ ?_
     rotate_left
     ·intro w'
      go_simp
      with_reducible rfl
     rotate_left
     ·simp only [Act.put, sA_, sB_, sC_, i64_w, i32_w]
      rfl
     refine pure_ (i := 6) (N := some 2) (v := ?_) (a' := ?_) #[true, true, true, true, true, true, true] rfl rfl (by kernel_rfl) (fun _ _ _ h => h) (Or.inl ⟨by rfl, ?_⟩) ?_ ?_
     rotate_left
     ·intro w'
      go_simp
      with_reducible rfl
     rotate_left
     ·simp only [Act.put, sA_, sB_, sC_, i64_w, i32_w]
      rfl
     refine done_ (by kernel_rfl) ?_
     try go_wp2
     go_ret
     exact ⟨Qe, Qv HB.out ao.out⟩
 ·rw [if_neg c3] at H
  exact absurd H (by simp)
def r5_List.f  : Option (List ByteArray) := some (([(⟨#[97, 114, 116, 45, 108, 111, 106, 98, 97, 110, 42]⟩ : ByteArray), (⟨#[99, 101, 108, 45, 103, 97, 117, 108, 105, 115, 104, 42]⟩ : ByteArray), (⟨#[101, 110, 45, 103, 98, 45, 111, 101, 100]⟩ : ByteArray), (⟨#[105, 45, 97, 109, 105]⟩ : ByteArray), (⟨#[105, 45, 98, 110, 110]⟩ : ByteArray), (⟨#[105, 45, 100, 101, 102, 97, 117, 108, 116]⟩ : ByteArray), (⟨#[105, 45, 101, 110, 111, 99, 104, 105, 97, 110]⟩ : ByteArray), (⟨#[105, 45, 104, 97, 107]⟩ : ByteArray), (⟨#[105, 45, 107, 108, 105, 110, 103, 111, 110]⟩ : ByteArray), (⟨#[105, 45, 108, 117, 120]⟩ : ByteArray), (⟨#[105, 45, 109, 105, 110, 103, 111]⟩ : ByteArray), (⟨#[105, 45, 110, 97, 118, 97, 106, 111]⟩ : ByteArray), (⟨#[105, 45, 112, 119, 110]⟩ : ByteArray), (⟨#[105, 45, 116, 97, 111]⟩ : ByteArray), (⟨#[105, 45, 116, 97, 121]⟩ : ByteArray), (⟨#[105, 45, 116, 115, 117]⟩ : ByteArray), (⟨#[110, 111, 45, 98, 111, 107, 42]⟩ : ByteArray), (⟨#[110, 111, 45, 110, 121, 110, 42]⟩ : ByteArray), (⟨#[115, 103, 110, 45, 98, 101, 45, 102, 114]⟩ : ByteArray), (⟨#[115, 103, 110, 45, 98, 101, 45, 110, 108]⟩ : ByteArray), (⟨#[115, 103, 110, 45, 99, 104, 45, 100, 101]⟩ : ByteArray), (⟨#[122, 104, 45, 103, 117, 111, 121, 117, 42]⟩ : ByteArray), (⟨#[122, 104, 45, 104, 97, 107, 107, 97, 42]⟩ : ByteArray), (⟨#[122, 104, 45, 109, 105, 110, 42]⟩ : ByteArray), (⟨#[122, 104, 45, 109, 105, 110, 45, 110, 97, 110, 42]⟩ : ByteArray), (⟨#[122, 104, 45, 120, 105, 97, 110, 103, 42]⟩ : ByteArray)] : List ByteArray))
set_option maxHeartbeats 8000000 in
set_option maxRecDepth 100000 in
theorem r5_List.calls  (r : List ByteArray) (w : World) (h : r5_List.f  = some r) :
  Calls Tryz.prog 75 #[] w fun e w' => ∃ v0_ : Value, e = .returned (v0_) ∧ Kd.R Kd.string 9 w' w.heap.size (fun _ => True) v0_ r ∧ Below w.heap.size w w' := by
 have HB := Aside0.mk (Below.refl w.heap.size w)
 have H := h; unfold r5_List.f at H
 clear h
 obtain ⟨bw, aQ⟩ : ∃ y_ : List ByteArray, y_ = (([(⟨#[97, 114, 116, 45, 108, 111, 106, 98, 97, 110, 42]⟩ : ByteArray), (⟨#[99, 101, 108, 45, 103, 97, 117, 108, 105, 115, 104, 42]⟩ : ByteArray), (⟨#[101, 110, 45, 103, 98, 45, 111, 101, 100]⟩ : ByteArray), (⟨#[105, 45, 97, 109, 105]⟩ : ByteArray), (⟨#[105, 45, 98, 110, 110]⟩ : ByteArray), (⟨#[105, 45, 100, 101, 102, 97, 117, 108, 116]⟩ : ByteArray), (⟨#[105, 45, 101, 110, 111, 99, 104, 105, 97, 110]⟩ : ByteArray), (⟨#[105, 45, 104, 97, 107]⟩ : ByteArray), (⟨#[105, 45, 107, 108, 105, 110, 103, 111, 110]⟩ : ByteArray), (⟨#[105, 45, 108, 117, 120]⟩ : ByteArray), (⟨#[105, 45, 109, 105, 110, 103, 111]⟩ : ByteArray), (⟨#[105, 45, 110, 97, 118, 97, 106, 111]⟩ : ByteArray), (⟨#[105, 45, 112, 119, 110]⟩ : ByteArray), (⟨#[105, 45, 116, 97, 111]⟩ : ByteArray), (⟨#[105, 45, 116, 97, 121]⟩ : ByteArray), (⟨#[105, 45, 116, 115, 117]⟩ : ByteArray), (⟨#[110, 111, 45, 98, 111, 107, 42]⟩ : ByteArray), (⟨#[110, 111, 45, 110, 121, 110, 42]⟩ : ByteArray), (⟨#[115, 103, 110, 45, 98, 101, 45, 102, 114]⟩ : ByteArray), (⟨#[115, 103, 110, 45, 98, 101, 45, 110, 108]⟩ : ByteArray), (⟨#[115, 103, 110, 45, 99, 104, 45, 100, 101]⟩ : ByteArray), (⟨#[122, 104, 45, 103, 117, 111, 121, 117, 42]⟩ : ByteArray), (⟨#[122, 104, 45, 104, 97, 107, 107, 97, 42]⟩ : ByteArray), (⟨#[122, 104, 45, 109, 105, 110, 42]⟩ : ByteArray), (⟨#[122, 104, 45, 109, 105, 110, 45, 110, 97, 110, 42]⟩ : ByteArray), (⟨#[122, 104, 45, 120, 105, 97, 110, 103, 42]⟩ : ByteArray)] : List ByteArray)) := ⟨_, rfl⟩
 replace H : (some bw) = some r := by first | (rw [aQ]; with_reducible exact H) | (have H2_ := (Option.bind_some _ _).symm.trans H; rw [aQ]; with_reducible exact H2_) | (have H2_ := (Option.bind_some _ _).symm.trans H; with_reducible exact H2_) | with_reducible exact H | (rw [aQ]; exact H) | exact H
 have bd := Aside0.mk aQ
 clear aQ
 obtain rfl := Option.some.inj H
 go_enter Tryz.func75, Tryz.ntmps75
 go_wp2_with (first | ((with_reducible refine gate_dst (N := 1) rfl ?_); refine Kd.R_lit Kd.string _ 9 ?hg (N := 1) ?hd (xs := ([(⟨#[97, 114, 116, 45, 108, 111, 106, 98, 97, 110, 42]⟩ : ByteArray), (⟨#[99, 101, 108, 45, 103, 97, 117, 108, 105, 115, 104, 42]⟩ : ByteArray), (⟨#[101, 110, 45, 103, 98, 45, 111, 101, 100]⟩ : ByteArray), (⟨#[105, 45, 97, 109, 105]⟩ : ByteArray), (⟨#[105, 45, 98, 110, 110]⟩ : ByteArray), (⟨#[105, 45, 100, 101, 102, 97, 117, 108, 116]⟩ : ByteArray), (⟨#[105, 45, 101, 110, 111, 99, 104, 105, 97, 110]⟩ : ByteArray), (⟨#[105, 45, 104, 97, 107]⟩ : ByteArray), (⟨#[105, 45, 107, 108, 105, 110, 103, 111, 110]⟩ : ByteArray), (⟨#[105, 45, 108, 117, 120]⟩ : ByteArray), (⟨#[105, 45, 109, 105, 110, 103, 111]⟩ : ByteArray), (⟨#[105, 45, 110, 97, 118, 97, 106, 111]⟩ : ByteArray), (⟨#[105, 45, 112, 119, 110]⟩ : ByteArray), (⟨#[105, 45, 116, 97, 111]⟩ : ByteArray), (⟨#[105, 45, 116, 97, 121]⟩ : ByteArray), (⟨#[105, 45, 116, 115, 117]⟩ : ByteArray), (⟨#[110, 111, 45, 98, 111, 107, 42]⟩ : ByteArray), (⟨#[110, 111, 45, 110, 121, 110, 42]⟩ : ByteArray), (⟨#[115, 103, 110, 45, 98, 101, 45, 102, 114]⟩ : ByteArray), (⟨#[115, 103, 110, 45, 98, 101, 45, 110, 108]⟩ : ByteArray), (⟨#[115, 103, 110, 45, 99, 104, 45, 100, 101]⟩ : ByteArray), (⟨#[122, 104, 45, 103, 117, 111, 121, 117, 42]⟩ : ByteArray), (⟨#[122, 104, 45, 104, 97, 107, 107, 97, 42]⟩ : ByteArray), (⟨#[122, 104, 45, 109, 105, 110, 42]⟩ : ByteArray), (⟨#[122, 104, 45, 109, 105, 110, 45, 110, 97, 110, 42]⟩ : ByteArray), (⟨#[122, 104, 45, 120, 105, 97, 110, 103, 42]⟩ : ByteArray)] : List ByteArray)) (inner := [.string (⟨#[97, 114, 116, 45, 108, 111, 106, 98, 97, 110, 42]⟩ : ByteArray), .string (⟨#[99, 101, 108, 45, 103, 97, 117, 108, 105, 115, 104, 42]⟩ : ByteArray), .string (⟨#[101, 110, 45, 103, 98, 45, 111, 101, 100]⟩ : ByteArray), .string (⟨#[105, 45, 97, 109, 105]⟩ : ByteArray), .string (⟨#[105, 45, 98, 110, 110]⟩ : ByteArray), .string (⟨#[105, 45, 100, 101, 102, 97, 117, 108, 116]⟩ : ByteArray), .string (⟨#[105, 45, 101, 110, 111, 99, 104, 105, 97, 110]⟩ : ByteArray), .string (⟨#[105, 45, 104, 97, 107]⟩ : ByteArray), .string (⟨#[105, 45, 107, 108, 105, 110, 103, 111, 110]⟩ : ByteArray), .string (⟨#[105, 45, 108, 117, 120]⟩ : ByteArray), .string (⟨#[105, 45, 109, 105, 110, 103, 111]⟩ : ByteArray), .string (⟨#[105, 45, 110, 97, 118, 97, 106, 111]⟩ : ByteArray), .string (⟨#[105, 45, 112, 119, 110]⟩ : ByteArray), .string (⟨#[105, 45, 116, 97, 111]⟩ : ByteArray), .string (⟨#[105, 45, 116, 97, 121]⟩ : ByteArray), .string (⟨#[105, 45, 116, 115, 117]⟩ : ByteArray), .string (⟨#[110, 111, 45, 98, 111, 107, 42]⟩ : ByteArray), .string (⟨#[110, 111, 45, 110, 121, 110, 42]⟩ : ByteArray), .string (⟨#[115, 103, 110, 45, 98, 101, 45, 102, 114]⟩ : ByteArray), .string (⟨#[115, 103, 110, 45, 98, 101, 45, 110, 108]⟩ : ByteArray), .string (⟨#[115, 103, 110, 45, 99, 104, 45, 100, 101]⟩ : ByteArray), .string (⟨#[122, 104, 45, 103, 117, 111, 121, 117, 42]⟩ : ByteArray), .string (⟨#[122, 104, 45, 104, 97, 107, 107, 97, 42]⟩ : ByteArray), .string (⟨#[122, 104, 45, 109, 105, 110, 42]⟩ : ByteArray), .string (⟨#[122, 104, 45, 109, 105, 110, 45, 110, 97, 110, 42]⟩ : ByteArray), .string (⟨#[122, 104, 45, 120, 105, 97, 110, 103, 42]⟩ : ByteArray)]) (ok := fun _ => True) (okp := fun _ => True) ?hr ?hp (fun _ hk => hk) trivial (Below.refl _ _) (Nat.le_refl _) (by simp) ?_; (case hd => rfl); (case hg => rfl); (case hr => first | (go_simp; done) | (go_simp; rfl)); (case hp => exact (Reps.one (show Kd.M Kd.string _ _ _ (⟨#[97, 114, 116, 45, 108, 111, 106, 98, 97, 110, 42]⟩ : ByteArray) [.string (⟨#[97, 114, 116, 45, 108, 111, 106, 98, 97, 110, 42]⟩ : ByteArray)] from rfl) (Reps.one (show Kd.M Kd.string _ _ _ (⟨#[99, 101, 108, 45, 103, 97, 117, 108, 105, 115, 104, 42]⟩ : ByteArray) [.string (⟨#[99, 101, 108, 45, 103, 97, 117, 108, 105, 115, 104, 42]⟩ : ByteArray)] from rfl) (Reps.one (show Kd.M Kd.string _ _ _ (⟨#[101, 110, 45, 103, 98, 45, 111, 101, 100]⟩ : ByteArray) [.string (⟨#[101, 110, 45, 103, 98, 45, 111, 101, 100]⟩ : ByteArray)] from rfl) (Reps.one (show Kd.M Kd.string _ _ _ (⟨#[105, 45, 97, 109, 105]⟩ : ByteArray) [.string (⟨#[105, 45, 97, 109, 105]⟩ : ByteArray)] from rfl) (Reps.one (show Kd.M Kd.string _ _ _ (⟨#[105, 45, 98, 110, 110]⟩ : ByteArray) [.string (⟨#[105, 45, 98, 110, 110]⟩ : ByteArray)] from rfl) (Reps.one (show Kd.M Kd.string _ _ _ (⟨#[105, 45, 100, 101, 102, 97, 117, 108, 116]⟩ : ByteArray) [.string (⟨#[105, 45, 100, 101, 102, 97, 117, 108, 116]⟩ : ByteArray)] from rfl) (Reps.one (show Kd.M Kd.string _ _ _ (⟨#[105, 45, 101, 110, 111, 99, 104, 105, 97, 110]⟩ : ByteArray) [.string (⟨#[105, 45, 101, 110, 111, 99, 104, 105, 97, 110]⟩ : ByteArray)] from rfl) (Reps.one (show Kd.M Kd.string _ _ _ (⟨#[105, 45, 104, 97, 107]⟩ : ByteArray) [.string (⟨#[105, 45, 104, 97, 107]⟩ : ByteArray)] from rfl) (Reps.one (show Kd.M Kd.string _ _ _ (⟨#[105, 45, 107, 108, 105, 110, 103, 111, 110]⟩ : ByteArray) [.string (⟨#[105, 45, 107, 108, 105, 110, 103, 111, 110]⟩ : ByteArray)] from rfl) (Reps.one (show Kd.M Kd.string _ _ _ (⟨#[105, 45, 108, 117, 120]⟩ : ByteArray) [.string (⟨#[105, 45, 108, 117, 120]⟩ : ByteArray)] from rfl) (Reps.one (show Kd.M Kd.string _ _ _ (⟨#[105, 45, 109, 105, 110, 103, 111]⟩ : ByteArray) [.string (⟨#[105, 45, 109, 105, 110, 103, 111]⟩ : ByteArray)] from rfl) (Reps.one (show Kd.M Kd.string _ _ _ (⟨#[105, 45, 110, 97, 118, 97, 106, 111]⟩ : ByteArray) [.string (⟨#[105, 45, 110, 97, 118, 97, 106, 111]⟩ : ByteArray)] from rfl) (Reps.one (show Kd.M Kd.string _ _ _ (⟨#[105, 45, 112, 119, 110]⟩ : ByteArray) [.string (⟨#[105, 45, 112, 119, 110]⟩ : ByteArray)] from rfl) (Reps.one (show Kd.M Kd.string _ _ _ (⟨#[105, 45, 116, 97, 111]⟩ : ByteArray) [.string (⟨#[105, 45, 116, 97, 111]⟩ : ByteArray)] from rfl) (Reps.one (show Kd.M Kd.string _ _ _ (⟨#[105, 45, 116, 97, 121]⟩ : ByteArray) [.string (⟨#[105, 45, 116, 97, 121]⟩ : ByteArray)] from rfl) (Reps.one (show Kd.M Kd.string _ _ _ (⟨#[105, 45, 116, 115, 117]⟩ : ByteArray) [.string (⟨#[105, 45, 116, 115, 117]⟩ : ByteArray)] from rfl) (Reps.one (show Kd.M Kd.string _ _ _ (⟨#[110, 111, 45, 98, 111, 107, 42]⟩ : ByteArray) [.string (⟨#[110, 111, 45, 98, 111, 107, 42]⟩ : ByteArray)] from rfl) (Reps.one (show Kd.M Kd.string _ _ _ (⟨#[110, 111, 45, 110, 121, 110, 42]⟩ : ByteArray) [.string (⟨#[110, 111, 45, 110, 121, 110, 42]⟩ : ByteArray)] from rfl) (Reps.one (show Kd.M Kd.string _ _ _ (⟨#[115, 103, 110, 45, 98, 101, 45, 102, 114]⟩ : ByteArray) [.string (⟨#[115, 103, 110, 45, 98, 101, 45, 102, 114]⟩ : ByteArray)] from rfl) (Reps.one (show Kd.M Kd.string _ _ _ (⟨#[115, 103, 110, 45, 98, 101, 45, 110, 108]⟩ : ByteArray) [.string (⟨#[115, 103, 110, 45, 98, 101, 45, 110, 108]⟩ : ByteArray)] from rfl) (Reps.one (show Kd.M Kd.string _ _ _ (⟨#[115, 103, 110, 45, 99, 104, 45, 100, 101]⟩ : ByteArray) [.string (⟨#[115, 103, 110, 45, 99, 104, 45, 100, 101]⟩ : ByteArray)] from rfl) (Reps.one (show Kd.M Kd.string _ _ _ (⟨#[122, 104, 45, 103, 117, 111, 121, 117, 42]⟩ : ByteArray) [.string (⟨#[122, 104, 45, 103, 117, 111, 121, 117, 42]⟩ : ByteArray)] from rfl) (Reps.one (show Kd.M Kd.string _ _ _ (⟨#[122, 104, 45, 104, 97, 107, 107, 97, 42]⟩ : ByteArray) [.string (⟨#[122, 104, 45, 104, 97, 107, 107, 97, 42]⟩ : ByteArray)] from rfl) (Reps.one (show Kd.M Kd.string _ _ _ (⟨#[122, 104, 45, 109, 105, 110, 42]⟩ : ByteArray) [.string (⟨#[122, 104, 45, 109, 105, 110, 42]⟩ : ByteArray)] from rfl) (Reps.one (show Kd.M Kd.string _ _ _ (⟨#[122, 104, 45, 109, 105, 110, 45, 110, 97, 110, 42]⟩ : ByteArray) [.string (⟨#[122, 104, 45, 109, 105, 110, 45, 110, 97, 110, 42]⟩ : ByteArray)] from rfl) (Reps.one (show Kd.M Kd.string _ _ _ (⟨#[122, 104, 45, 120, 105, 97, 110, 103, 42]⟩ : ByteArray) [.string (⟨#[122, 104, 45, 120, 105, 97, 110, 103, 42]⟩ : ByteArray)] from rfl) (Reps.none _ _)))))))))))))))))))))))))))); intro v338 w1 ho2 hb hg_ hnew_; clear hg_ hnew_; (first | rw [← bd.out] at ho2 | (simp only [Int.reduceToNat] at ho2; rw [← bd.out] at ho2)); have al := Aside0.mk (Kd.R_lower ho2 (wZ_ (Qw HB.out))); have am := Aside0.mk (wT_ (Qw HB.out) hb); clear HB; have bo := al; have HB := am; clear al am; clear hb ho2))
 go_ret
 exact ⟨_, Qe, Qr bo.out, Qw HB.out⟩
def r5_Name.f (a0 : ByteArray) : Option (ByteArray) := if 0 ≤ (wrap64 ((a0.size : Int) - 1)) then (if (wrap64 ((a0.size : Int) - 1)) < (a0.size : Int) then (if (bt a0 (wrap64 ((a0.size : Int) - 1))) = 42 then (if (wrap64 ((a0.size : Int) - 1)) ≤ (a0.size : Int) then (some (a0.extract 0 ((wrap64 ((a0.size : Int) - 1)) : Int).toNat)) else (none)) else (some a0)) else (none)) else (none)
set_option maxHeartbeats 8000000 in
set_option maxRecDepth 100000 in
theorem r5_Name.calls (a0 : ByteArray) (r : ByteArray) (w : World) (h : r5_Name.f a0 = some r) :
  Calls Tryz.prog 76 #[.string a0] w fun e w' => e = .returned (.string r) ∧ Drawn0 w w' := by
 have H := h; unfold r5_Name.f at H
 clear h
 obtain ⟨ji2, hji2⟩ : ∃ j_ : Int, (wrap64 ((a0.size : Int) - 1)) = j_ := ⟨_, rfl⟩
 replace H : (if 0 ≤ (ji2) then (if (ji2) < (a0.size : Int) then (if (bt a0 (ji2)) = 42 then (if (ji2) ≤ (a0.size : Int) then (some (a0.extract 0 ((ji2) : Int).toNat)) else (none)) else (some a0)) else (none)) else (none)) = some r := by first | (rw [hji2] at H; exact H) | (simp only [hji2] at H ⊢; exact H)
 have hji2w : (IntKind.i64.wrap ((a0.size : Int) - 1)) = ji2 := (i64_w _).trans hji2
 by_cases c3 : 0 ≤ (ji2)
 ·rw [if_pos c3] at H
  have bp : decide (0 ≤ (ji2)) = true := decide_eq_true c3
  clear c3
  by_cases c4 : (ji2) < (a0.size : Int)
  ·rw [if_pos c4] at H
   have a4 : decide ((ji2) < (a0.size : Int)) = true := decide_eq_true c4
   clear c4
   by_cases c6 : (bt a0 (ji2)) = 42
   ·rw [if_pos c6] at H
    have bq : ((bt a0 (ji2)) == 42) = true := beq_iff_eq.mpr c6
    have bx : ((bt a0 (ji2)) != 42) = false := bne_eq_false_iff_eq.mpr c6
    clear c6
    have bF := eq_true (of_decide_eq_true Qa : 0 ≤ (ji2))
    by_cases c8 : (ji2) ≤ (a0.size : Int)
    ·rw [if_pos c8] at H
     have br := eq_true c8
     have bs : decide ((ji2) ≤ (a0.size : Int)) = true := decide_eq_true c8
     clear c8
     obtain rfl := Option.some.inj H
     have p5 : 0 ≤ ((ji2) : Int) := of_decide_eq_true Qa
     have q5 : (ji2) < (a0.size : Int) := of_decide_eq_true Qa
     have hx5 := bt_at a0 (ji2)
     replace p5 := eq_true p5
     replace q5 := eq_true q5
     go_enter Tryz.func76, Tryz.ntmps76
     go_wp2
     go_ret
     exact ⟨by first | rfl | (simp; done) | (simp only [← hji2] <;> (first | rfl | simp)) | (simp [*]; done), Q0⟩
    ·rw [if_neg c8] at H
     exact absurd H (by simp)
   ·rw [if_neg c6] at H
    have bq : ((bt a0 (ji2)) == 42) = false := beq_eq_false_iff_ne.mpr c6
    have bx : ((bt a0 (ji2)) != 42) = true := bne_iff_ne.mpr c6
    obtain rfl := Option.some.inj H
    have p5 : 0 ≤ ((ji2) : Int) := of_decide_eq_true Qa
    have q5 : (ji2) < (a0.size : Int) := of_decide_eq_true Qa
    have hx5 := bt_at a0 (ji2)
    replace p5 := eq_true p5
    replace q5 := eq_true q5
    go_enter Tryz.func76, Tryz.ntmps76
    go_wp2
    go_ret
    exact ⟨by first | rfl | (simp; done) | (simp only [← hji2] <;> (first | rfl | simp)) | (simp [*]; done), Q0⟩
  ·rw [if_neg c4] at H
   exact absurd H (by simp)
 ·rw [if_neg c3] at H
  exact absurd H (by simp)
def r5_Find.l0 : Nat → ByteArray → List ByteArray → Int → Option (Int)
 | 0, _, _, _ => none
 | k + 1, x0, x3, x4 => if x4 < (x3.length : Int) then ((r2_Lower.f k x0).bind fun aK => (if 0 ≤ x4 then ((r5_Name.f (rdOf ByteArray.empty x3 x4)).bind fun aM => (if aK.toList = aM.toList then (some x4) else (r5_Find.l0 k x0 x3 (wrap64 (x4 + 1))))) else (none))) else (some (-1))
def r5_Find.f (k : Nat) (a0 : ByteArray) : Option (Int) := (r5_List.f).bind fun aE => (r5_Find.l0 k a0 aE 0)
def r5_Find.T5 : Bool × List (List Nat × List Nat) := (true, [([], []), ([0], [0]), ([], []), ([], []), ([2, 3], [2, 3]), ([4], [4]), ([5, 1], [5]), ([1, 6], [1, 6])])
def r5_Find.B5 : List Nat := [0, 1, 0, 0, 12, 28, 63, 127]
theorem r5_Find.tab5 : rtab .any (opsOf Tryz.f35 5) = r5_Find.T5 := by kernel_rfl
theorem r5_Find.bits5 : waitsOk r5_Find.T5.2 r5_Find.B5 = true := by kernel_rfl
set_option maxHeartbeats 8000000 in
set_option maxRecDepth 100000 in
theorem r5_Find.calls (k : Nat) (a0 : ByteArray) (r : Int) (w : World) (h : r5_Find.f k a0 = some r) :
  Calls Tryz.prog 35 #[.string a0] w fun e w' => e = .returned (.int .i64 r) ∧ Below w.heap.size w w' := by
 have HB := Aside0.mk (Below.refl w.heap.size w)
 have H := h; unfold r5_Find.f at H
 clear h
 replace H := Option.bind_eq_some_iff.mp H
 obtain ⟨aE, bf, H⟩ := H
 replace H : (r5_Find.l0 k a0 aE 0) = some r := H
 have A2 := Aside0.mk bf
 clear bf
 have H' := Aside0.mk H
 clear H
 go_enter Tryz.func35, Tryz.ntmps35
 go_wp2_with (first | ((with_reducible refine gate_callee (f := 75) rfl ?_); refine goesL_ (some 5) rfl rfl Tryz.func75 (by kernel_rfl) rfl #[] rfl Qm ?_; (with_reducible refine (r5_List.calls  aE _ A2.out).mono ?_); rintro e w3 ⟨v341, rfl, ho0, hb⟩; refine ⟨_, rfl, ?_⟩; have al := Aside0.mk (Kd.R_lower ho0 (wZ_ (Qw HB.out))); have am := Aside0.mk (wT_ (Qw HB.out) hb); clear HB; have bu := al; have HB := am; clear al am; (try clear hb); (try clear ho0)))
 go_loopg [4] k (fun kq v4 w' => ∃ (ac : Int), v4 = .int .i64 ac ∧ Aside0 (r5_Find.l0 kq a0 aE ac = some r) ∧ Aside0 (kq ≤ k) ∧ Aside0 (Kd.R Kd.string 9 w' w.heap.size (fun _ => True) v341 aE) ∧ Aside0 (Below w.heap.size w w'))
 case atStart => exact ⟨(0), Qs, H', ⟨Nat.le_refl _⟩, ⟨Qr bu.out⟩, ⟨Qw HB.out⟩⟩
 case round =>
  clear H'
  obtain ⟨ac, rfl, HA, HK1, HO_3, HB⟩ := hrel
  cases gk with
  | zero => exact absurd HA.out (by simp [r5_Find.l0])
  | succ k1 =>
   have H := HA.out
   clear HA
   simp only [r5_Find.l0] at H
   by_cases c4 : ac < (aE.length : Int)
   ·rw [if_pos c4] at H
    have a4 : decide (ac < (aE.length : Int)) = true := decide_eq_true c4
    clear c4
    replace H := Option.bind_eq_some_iff.mp H
    obtain ⟨aK, bC, H⟩ := H
    try dsimp only at H
    have A5 := Aside0.mk bC
    clear bC
    by_cases c6 : 0 ≤ ac
    ·rw [if_pos c6] at H
     have bq : decide (0 ≤ ac) = true := decide_eq_true c6
     clear c6
     replace H := Option.bind_eq_some_iff.mp H
     obtain ⟨aM, bD, H⟩ := H
     try dsimp only at H
     have A7 := Aside0.mk bD
     clear bD
     by_cases c8 : aK.toList = aM.toList
     ·rw [if_pos c8] at H
      have br : (aK.toList == aM.toList) = true := beq_iff_eq.mpr c8
      have bs : (aK.toList != aM.toList) = false := bne_eq_false_iff_eq.mpr c8
      clear c8
      obtain rfl := Option.some.inj H
      obtain ⟨Ao9, co9, eo9⟩ := Kd.R_slice HO_3.out
      subst eo9
      try go_wp2
      have al := Aside0.mk (rD_ HO_3.out)
      have am := Aside0.mk (wD_ HB.out)
      clear HO_3 HB
      have HO_3 := al; have HB := am
      clear al am
      have p344 : 0 ≤ (ac : Int) := of_decide_eq_true Qa
      have q344 : ac < (aE.length : Int) := of_decide_eq_true Qa
      obtain ⟨ad344, e344, hx344_0⟩ := Kd.at_string (rR_ HO_3.out).2.2 ac p344 q344
      cases e344
      replace p344 := eq_true p344
      replace q344 := eq_true q344
      refine start_ (n := 8) (S := fun w' => w'.cell? (ad344.add (ac).toNat) = some (.string (rdOf ByteArray.empty aE ac))) (ds := []) #[false, false, false, false, false, false, false, false] (by kernel_rfl) rfl rfl (hx344_0) (fun hHeld => ?_); refine with_tabW r5_Find.tab5 r5_Find.bits5 (fun HT_ HW_ => ?_)
      generalize wr.drew = w10 at HO_3 HB hx344_0 hHeld ⊢
      refine pu_ (i := 0) (N := some 12) HT_ (bl_ 8 1) ?_
      refine pu_ (i := 2) (N := some 14) HT_ (bl_ 8 5) ?_
      refine pu_ (i := 3) (N := some 15) HT_ (bl_ 8 13) ?_
      refine pu_ (i := 4) (N := some 16) HT_ (bl_ 8 29) ?_
      refine take_ (i := 5) (N := some 17) (v := ?_) (a' := ?_) #[true, false, true, true, true, true, false, false] rfl rfl (take_ofW HT_.out HW_.out (by kernel_rfl)) (fun _ _ _ h => h) (Or.inl ⟨by rfl, ?_⟩) hHeld ?_ ?_
      rotate_left
      ·intro w' s0
       go_simp
       with_reducible rfl
      rotate_left
      ·simp only [Act.put, sA_, sB_, sC_, i64_w, i32_w]
       rfl
      refine on_ (i := 1) (N := some 13) HT_ (bl_ 8 63) rfl rfl (fun K hK => ?_)
      refine goes_ Tryz.func74 (by kernel_rfl) rfl #[.string a0] (by rfl) rfl rfl Qm ?_
      with_reducible refine (r2_Lower.calls k1 a0 aK _ A5.out).mono ?_
      rintro e w11 ⟨rfl, hb⟩
      have HS0_ := (hb.cell (World.block_lt_of_cell? _ _ (hHeld))).trans (hHeld)
      refine ⟨_, rfl, ?_⟩
      have al := Aside0.mk (Kd.R_below (Qr HO_3.out) hb)
      have am := Aside0.mk (wT_ (Qw HB.out) hb)
      clear HO_3 HB
      have HO_3 := al; have HB := am
      clear al am
      (try clear hb); (try clear hb2); (try clear hk); (try clear hi)
      refine hK.out _ _ (HS0_) (fun hHeld => ?_)
      clear hK K
      refine nm_ (some 13) ?_
      refine on_ (i := 6) (N := some 18) HT_ (bl_ 8 127) rfl rfl (fun K hK => ?_)
      refine goes_ Tryz.func76 (by kernel_rfl) rfl #[.string (rdOf ByteArray.empty aE ac)] (by rfl) rfl rfl Qm ?_
      with_reducible refine (r5_Name.calls (rdOf ByteArray.empty aE ac) aM _ A7.out).mono ?_
      rintro e w' ⟨rfl, ⟨nd, rfl⟩⟩
      refine ⟨_, rfl, ?_⟩
      refine hK.out _ _ (hHeld) (fun hHeld => ?_)
      clear hK K
      refine nm_ (some 18) ?_
      refine pu_ (i := 7) (N := some 19) HT_ (bl_ 8 255) ?_
      refine done_ (done_of HT_.out (by kernel_rfl)) ?_
      try go_wp2
      go_ret
      exact ⟨Qe, Qw HB.out⟩
     ·rw [if_neg c8] at H
      have br : (aK.toList == aM.toList) = false := beq_eq_false_iff_ne.mpr c8
      have bs : (aK.toList != aM.toList) = true := bne_iff_ne.mpr c8
      have H' := Aside0.mk H
      clear H
      obtain ⟨Ao12, co12, eo12⟩ := Kd.R_slice HO_3.out
      subst eo12
      try go_wp2
      have al := Aside0.mk (rD_ HO_3.out)
      have am := Aside0.mk (wD_ HB.out)
      clear HO_3 HB
      have HO_3 := al; have HB := am
      clear al am
      have p344 : 0 ≤ (ac : Int) := of_decide_eq_true Qa
      have q344 : ac < (aE.length : Int) := of_decide_eq_true Qa
      obtain ⟨ad344, e344, hx344_0⟩ := Kd.at_string (rR_ HO_3.out).2.2 ac p344 q344
      cases e344
      replace p344 := eq_true p344
      replace q344 := eq_true q344
      refine start_ (n := 8) (S := fun w' => w'.cell? (ad344.add (ac).toNat) = some (.string (rdOf ByteArray.empty aE ac))) (ds := []) #[false, false, false, false, false, false, false, false] (by kernel_rfl) rfl rfl (hx344_0) (fun hHeld => ?_); refine with_tabW r5_Find.tab5 r5_Find.bits5 (fun HT_ HW_ => ?_)
      generalize wr.drew = w13 at HO_3 HB hx344_0 hHeld ⊢
      refine pu_ (i := 0) (N := some 12) HT_ (bl_ 8 1) ?_
      refine pu_ (i := 2) (N := some 14) HT_ (bl_ 8 5) ?_
      refine pu_ (i := 3) (N := some 15) HT_ (bl_ 8 13) ?_
      refine pu_ (i := 4) (N := some 16) HT_ (bl_ 8 29) ?_
      refine take_ (i := 5) (N := some 17) (v := ?_) (a' := ?_) #[true, false, true, true, true, true, false, false] rfl rfl (take_ofW HT_.out HW_.out (by kernel_rfl)) (fun _ _ _ h => h) (Or.inl ⟨by rfl, ?_⟩) hHeld ?_ ?_
      rotate_left
      ·intro w' s0
       go_simp
       with_reducible rfl
      rotate_left
      ·simp only [Act.put, sA_, sB_, sC_, i64_w, i32_w]
       rfl
      refine on_ (i := 1) (N := some 13) HT_ (bl_ 8 63) rfl rfl (fun K hK => ?_)
      refine goes_ Tryz.func74 (by kernel_rfl) rfl #[.string a0] (by rfl) rfl rfl Qm ?_
      with_reducible refine (r2_Lower.calls k1 a0 aK _ A5.out).mono ?_
      rintro e w14 ⟨rfl, hb⟩
      have HS0_ := (hb.cell (World.block_lt_of_cell? _ _ (hHeld))).trans (hHeld)
      refine ⟨_, rfl, ?_⟩
      have al := Aside0.mk (Kd.R_below (Qr HO_3.out) hb)
      have am := Aside0.mk (wT_ (Qw HB.out) hb)
      clear HO_3 HB
      have HO_3 := al; have HB := am
      clear al am
      (try clear hb); (try clear hb2); (try clear hk); (try clear hi)
      refine hK.out _ _ (HS0_) (fun hHeld => ?_)
      clear hK K
      refine nm_ (some 13) ?_
      refine on_ (i := 6) (N := some 18) HT_ (bl_ 8 127) rfl rfl (fun K hK => ?_)
      refine goes_ Tryz.func76 (by kernel_rfl) rfl #[.string (rdOf ByteArray.empty aE ac)] (by rfl) rfl rfl Qm ?_
      with_reducible refine (r5_Name.calls (rdOf ByteArray.empty aE ac) aM _ A7.out).mono ?_
      rintro e w' ⟨rfl, ⟨nd, rfl⟩⟩
      refine ⟨_, rfl, ?_⟩
      refine hK.out _ _ (hHeld) (fun hHeld => ?_)
      clear hK K
      refine nm_ (some 18) ?_
      refine pu_ (i := 7) (N := some 19) HT_ (bl_ 8 255) ?_
      refine done_ (done_of HT_.out (by kernel_rfl)) ?_
      try go_wp2
      go_roundg k1
      case measure => have := HK1.out; omega
      case rel => exact ⟨(wrap64 (ac + 1)), Qs, H', ⟨by have := HK1.out; omega⟩, ⟨Qr HO_3.out⟩, ⟨Qw HB.out⟩⟩
    ·rw [if_neg c6] at H
     exact absurd H (by simp)
   ·rw [if_neg c4] at H
    have a4 : decide (ac < (aE.length : Int)) = false := decide_eq_false c4
    clear c4
    obtain rfl := Option.some.inj H
    obtain ⟨Ao15, co15, eo15⟩ := Kd.R_slice HO_3.out
    subst eo15
    go_wp2
    go_ret
    exact ⟨Qe, Qw HB.out⟩
def r2_letter.f (a0 : Int) : Option (Bool) := if a0 ≥ 97 then (if a0 ≤ 122 then (some true) else (if a0 ≥ 65 then (some (decide (a0 ≤ 90))) else (some false))) else (if a0 ≥ 65 then (some (decide (a0 ≤ 90))) else (some false))
set_option maxHeartbeats 8000000 in
set_option maxRecDepth 100000 in
theorem r2_letter.calls (a0 : Int) (r : Bool) (w : World) (h : r2_letter.f a0 = some r) :
  Calls Tryz.prog 82 #[.int .u8 a0] w fun e w' => e = .returned (.bool r) ∧ Drawn0 w w' := by
 have H := h; unfold r2_letter.f at H
 clear h
 by_cases c2 : a0 ≥ 97
 ·rw [if_pos c2] at H
  have be : decide (97 ≤ a0) = true := decide_eq_true c2
  clear c2
  by_cases c3 : a0 ≤ 122
  ·rw [if_pos c3] at H
   have bp : decide (a0 ≤ 122) = true := decide_eq_true c3
   clear c3
   obtain rfl := Option.some.inj H
   go_enter Tryz.func82, Tryz.ntmps82
   go_wp2
   go_ret
   exact ⟨Qs, Q0⟩
  ·rw [if_neg c3] at H
   have bp : decide (a0 ≤ 122) = false := decide_eq_false c3
   clear c3
   by_cases c4 : a0 ≥ 65
   ·rw [if_pos c4] at H
    have a4 : decide (65 ≤ a0) = true := decide_eq_true c4
    clear c4
    obtain rfl := Option.some.inj H
    go_enter Tryz.func82, Tryz.ntmps82
    go_wp2
    go_ret
    exact ⟨Qs, Q0⟩
   ·rw [if_neg c4] at H
    have a4 : decide (65 ≤ a0) = false := decide_eq_false c4
    clear c4
    obtain rfl := Option.some.inj H
    go_enter Tryz.func82, Tryz.ntmps82
    go_wp2
    go_ret
    exact ⟨Qs, Q0⟩
 ·rw [if_neg c2] at H
  have be : decide (97 ≤ a0) = false := decide_eq_false c2
  clear c2
  by_cases c5 : a0 ≥ 65
  ·rw [if_pos c5] at H
   have bz : decide (65 ≤ a0) = true := decide_eq_true c5
   clear c5
   obtain rfl := Option.some.inj H
   go_enter Tryz.func82, Tryz.ntmps82
   go_wp2
   go_ret
   exact ⟨Qs, Q0⟩
  ·rw [if_neg c5] at H
   have bz : decide (65 ≤ a0) = false := decide_eq_false c5
   clear c5
   obtain rfl := Option.some.inj H
   go_enter Tryz.func82, Tryz.ntmps82
   go_wp2
   go_ret
   exact ⟨Qs, Q0⟩
def r2_digit.f (a0 : Int) : Option (Bool) := if a0 ≥ 48 then (some (decide (a0 ≤ 57))) else (some false)
set_option maxHeartbeats 8000000 in
set_option maxRecDepth 100000 in
theorem r2_digit.calls (a0 : Int) (r : Bool) (w : World) (h : r2_digit.f a0 = some r) :
  Calls Tryz.prog 83 #[.int .u8 a0] w fun e w' => e = .returned (.bool r) ∧ Drawn0 w w' := by
 have H : (if a0 ≥ 48 then (some (decide (a0 ≤ 57))) else (some false)) = some r := h
 clear h
 by_cases c2 : a0 ≥ 48
 ·rw [if_pos c2] at H
  have be : decide (48 ≤ a0) = true := decide_eq_true c2
  clear c2
  obtain rfl := Option.some.inj H
  go_enter Tryz.func83, Tryz.ntmps83
  go_wp2
  go_ret
  exact ⟨Qs, Q0⟩
 ·rw [if_neg c2] at H
  have be : decide (48 ≤ a0) = false := decide_eq_false c2
  clear c2
  obtain rfl := Option.some.inj H
  go_enter Tryz.func83, Tryz.ntmps83
  go_wp2
  go_ret
  exact ⟨Qs, Q0⟩
end Go.Proofs.YtljadeeoaoiilaaGreatDoor.P
