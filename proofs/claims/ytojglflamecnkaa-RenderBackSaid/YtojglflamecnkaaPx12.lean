-- Written for this claim by the session's own run of the print, functions proved by hand put in.
import Derived.Test.YtojglflamecnkaaSq
import Derived.Test.YtojglflamecnkaaPx0
import Derived.Test.YtojglflamecnkaaPx6
namespace Go.Proofs.Ytojglflamecnkaa.P
open Go.RowKit Go.Proofs.YtojglflamecnkaaW.PrintWords Go.Proofs.YtojglflamecnkaaW.PrintLast Go.Proofs.YtojglflamecnkaaW.PrintMore
open Go.Proofs.YtojglflamecnkaaW.PrintWords renaming blk_alloc → bA_, blk_drewN → bN_, blk_drew → bD_, blk_frozen → bF_, blk_cell → bC_, below_alloc → wA_, pw_below_drewN → wN_, below_drew1 → wD_, below_set → wS_, below_size → wZ_
open Go.Proofs.YtojglflamecnkaaW.PrintWords.Kd renaming R_alloc → rA_, R_drewN → rN_, R_drew → rD_
theorem c8_12 {w : World} {g : Nat} {t : TypeId} {x0 x1 x2 x3 x4 x5 x6 x7 : Value} (h : w.heap[g]? = some (.cells #[x0, x1, x2, x3, x4, x5, x6, x7] t (0, 0))) : w.cell? ⟨g, 0, none⟩ = some x0 ∧ w.cell? ⟨g, 1, none⟩ = some x1 ∧ w.cell? ⟨g, 2, none⟩ = some x2 ∧ w.cell? ⟨g, 3, none⟩ = some x3 ∧ w.cell? ⟨g, 4, none⟩ = some x4 ∧ w.cell? ⟨g, 5, none⟩ = some x5 ∧ w.cell? ⟨g, 6, none⟩ = some x6 ∧ w.cell? ⟨g, 7, none⟩ = some x7 ∧ w.frozen? ⟨g, 0, none⟩ = false ∧ w.frozen? ⟨g, 1, none⟩ = false ∧ w.frozen? ⟨g, 2, none⟩ = false ∧ w.frozen? ⟨g, 3, none⟩ = false ∧ w.frozen? ⟨g, 4, none⟩ = false ∧ w.frozen? ⟨g, 5, none⟩ = false ∧ w.frozen? ⟨g, 6, none⟩ = false ∧ w.frozen? ⟨g, 7, none⟩ = false :=
  ⟨(bC_ h 0).trans rfl, (bC_ h 1).trans rfl, (bC_ h 2).trans rfl, (bC_ h 3).trans rfl, (bC_ h 4).trans rfl, (bC_ h 5).trans rfl, (bC_ h 6).trans rfl, (bC_ h 7).trans rfl, bF_ h 0, bF_ h 1, bF_ h 2, bF_ h 3, bF_ h 4, bF_ h 5, bF_ h 6, bF_ h 7⟩
attribute [local go_sem] max2_int min2_int max_two min_two max_three min_three max_four min_four   -- for this text's walks alone
set_option linter.unusedVariables false
set_option linter.unusedSimpArgs false
mutual
def r6_Subtags.j0 : Nat → List ByteArray → ByteArray → List ByteArray → ByteArray → ByteArray → List ByteArray → List (S62) → List ByteArray → ByteArray → Option (List ByteArray)
 | 0, _, _, _, _, _, _, _, _, _ => none
 | k + 1, x3, am, ae, af, ag, ah, ab, ad, ao => r6_Subtags.l0 k x3 0 am ae af ag ah ab ad ao
def r6_Subtags.l0 : Nat → List ByteArray → Int → ByteArray → List ByteArray → ByteArray → ByteArray → List ByteArray → List (S62) → List ByteArray → ByteArray → Option (List ByteArray)
 | 0, _, _, _, _, _, _, _, _, _, _ => none
 | k + 1, x3, x4, am, ae, af, ag, ah, ab, ad, ao => if x4 < (ae.length : Int) then (if 0 ≤ x4 then (if x3.length < 8796093022208 then (r6_Subtags.l0 k (x3 ++ [rdOf ByteArray.empty ae x4]) (wrap64 (x4 + 1)) am ae af ag ah ab ad ao) else (none)) else (none)) else (if af.toList = ([] : List UInt8) then (r6_Subtags.j2 k x3 am ae af ag ah ab ad ao) else (if x3.length < 8796093022208 then (r6_Subtags.j2 k (x3 ++ [af]) am ae af ag ah ab ad ao) else (none)))
def r6_Subtags.j2 : Nat → List ByteArray → ByteArray → List ByteArray → ByteArray → ByteArray → List ByteArray → List (S62) → List ByteArray → ByteArray → Option (List ByteArray)
 | 0, _, _, _, _, _, _, _, _, _ => none
 | k + 1, x3, am, ae, af, ag, ah, ab, ad, ao => if ag.toList = ([] : List UInt8) then (r6_Subtags.j3 k x3 am ae af ag ah ab ad ao) else (if x3.length < 8796093022208 then (r6_Subtags.j3 k (x3 ++ [ag]) am ae af ag ah ab ad ao) else (none))
def r6_Subtags.j3 : Nat → List ByteArray → ByteArray → List ByteArray → ByteArray → ByteArray → List ByteArray → List (S62) → List ByteArray → ByteArray → Option (List ByteArray)
 | 0, _, _, _, _, _, _, _, _, _ => none
 | k + 1, x3, am, ae, af, ag, ah, ab, ad, ao => r6_Subtags.l1 k x3 0 am ae af ag ah ab ad ao
def r6_Subtags.l1 : Nat → List ByteArray → Int → ByteArray → List ByteArray → ByteArray → ByteArray → List ByteArray → List (S62) → List ByteArray → ByteArray → Option (List ByteArray)
 | 0, _, _, _, _, _, _, _, _, _, _ => none
 | k + 1, x3, x5, am, ae, af, ag, ah, ab, ad, ao => if x5 < (ah.length : Int) then (if 0 ≤ x5 then (if x3.length < 8796093022208 then (r6_Subtags.l1 k (x3 ++ [rdOf ByteArray.empty ah x5]) (wrap64 (x5 + 1)) am ae af ag ah ab ad ao) else (none)) else (none)) else (r6_Subtags.l2 k x3 0 am ae af ag ah ab ad ao)
def r6_Subtags.l2 : Nat → List ByteArray → Int → ByteArray → List ByteArray → ByteArray → ByteArray → List ByteArray → List (S62) → List ByteArray → ByteArray → Option (List ByteArray)
 | 0, _, _, _, _, _, _, _, _, _, _ => none
 | k + 1, x3, x6, am, ae, af, ag, ah, ab, ad, ao => if x6 < (ab.length : Int) then (if 0 ≤ x6 then (if x3.length < 8796093022208 then (r6_Subtags.l3 k (x3 ++ [(rd_T62 ab x6).f0]) x6 0 am ae af ag ah ab ad ao) else (none)) else (none)) else (if (ad.length : Int) > 0 then (if x3.length < 8796093022208 then (r6_Subtags.j7 k (x3 ++ [(⟨#[120]⟩ : ByteArray)]) am ae af ag ah ab ad ao) else (none)) else (r6_Subtags.j7 k x3 am ae af ag ah ab ad ao))
def r6_Subtags.l3 : Nat → List ByteArray → Int → Int → ByteArray → List ByteArray → ByteArray → ByteArray → List ByteArray → List (S62) → List ByteArray → ByteArray → Option (List ByteArray)
 | 0, _, _, _, _, _, _, _, _, _, _, _ => none
 | k + 1, x3, x6, x7, am, ae, af, ag, ah, ab, ad, ao => if 0 ≤ x6 then (if x6 < (ab.length : Int) then (if x7 < (((rd_T62 ab x6).f1).length : Int) then (if 0 ≤ x7 then (if x3.length < 8796093022208 then (r6_Subtags.l3 k (x3 ++ [rdOf ByteArray.empty ((rd_T62 ab x6).f1) x7]) x6 (wrap64 (x7 + 1)) am ae af ag ah ab ad ao) else (none)) else (none)) else (r6_Subtags.l2 k x3 (wrap64 (x6 + 1)) am ae af ag ah ab ad ao)) else (none)) else (none)
def r6_Subtags.j7 : Nat → List ByteArray → ByteArray → List ByteArray → ByteArray → ByteArray → List ByteArray → List (S62) → List ByteArray → ByteArray → Option (List ByteArray)
 | 0, _, _, _, _, _, _, _, _, _ => none
 | k + 1, x3, am, ae, af, ag, ah, ab, ad, ao => r6_Subtags.l4 k x3 0 am ae af ag ah ab ad ao
def r6_Subtags.l4 : Nat → List ByteArray → Int → ByteArray → List ByteArray → ByteArray → ByteArray → List ByteArray → List (S62) → List ByteArray → ByteArray → Option (List ByteArray)
 | 0, _, _, _, _, _, _, _, _, _, _ => none
 | k + 1, x3, x8, am, ae, af, ag, ah, ab, ad, ao => if x8 < (ad.length : Int) then (if 0 ≤ x8 then (if x3.length < 8796093022208 then (r6_Subtags.l4 k (x3 ++ [rdOf ByteArray.empty ad x8]) (wrap64 (x8 + 1)) am ae af ag ah ab ad ao) else (none)) else (none)) else (some x3)
end
def r6_Subtags.f (k : Nat) (ai : ByteArray) (au : List ByteArray) (aq : ByteArray) (ar : ByteArray) (av : List ByteArray) (ac : List (S62)) (aj : List ByteArray) (ak : ByteArray) : Option (List ByteArray) := if ak.toList = ([] : List UInt8) then (if ai.toList = ([] : List UInt8) then (r6_Subtags.j0 k ([] : List ByteArray) ai au aq ar av ac aj ak) else (if ([] : List ByteArray).length < 8796093022208 then (r6_Subtags.j0 k (([] : List ByteArray) ++ [ai]) ai au aq ar av ac aj ak) else (none))) else ((r4_Split.f k ak).bind fun e3 => (some e3))
set_option maxHeartbeats 8000000 in
set_option maxRecDepth 100000 in
theorem r6_Subtags.calls (k : Nat) (ai : ByteArray) (aC : Option Addr) (ax : Nat) (au : List ByteArray) (aq : ByteArray) (ar : ByteArray) (aD : Option Addr) (ay : Nat) (av : List ByteArray) (aG : Option Addr) (az : Nat) (ac : List (S62)) (aE : Option Addr) (aA : Nat) (aj : List ByteArray) (ak : ByteArray) (r : List ByteArray) (w : World) (hr0_1 : Kd.C Kd.string w aC au.length au) (hc0_1 : au.length ≤ ax) (hr0_4 : Kd.C Kd.string w aD av.length av) (hc0_4 : av.length ≤ ay) (hr0_5 : Kd.C k62 w aG ac.length ac) (hc0_5 : ac.length ≤ az) (hr0_6 : Kd.C Kd.string w aE aj.length aj) (hc0_6 : aj.length ≤ aA) (h : r6_Subtags.f k ai au aq ar av ac aj ak = some r) :
  Calls Try.prog 22 #[.agg #[.string ai, .slice aC au.length ax, .string aq, .string ar, .slice aD av.length ay, .slice aG ac.length az, .slice aE aj.length aA, .string ak]] w fun e w' => ∃ v0_ : Value, e = .returned (v0_) ∧ Kd.R Kd.string 9 w' w.heap.size (fun _ => True) v0_ r ∧ Below w.heap.size w w' := by
 have hu34 := Try.underlying34
 have fn := Aside0.mk hr0_1
 have g3 := Aside0.mk hc0_1
 clear hr0_1 hc0_1
 have fo := Aside0.mk hr0_4
 have g4 := Aside0.mk hc0_4
 clear hr0_4 hc0_4
 have ec := Aside0.mk hr0_5
 have g5 := Aside0.mk hc0_5
 clear hr0_5 hc0_5
 have fp := Aside0.mk hr0_6
 have g6 := Aside0.mk hc0_6
 clear hr0_6 hc0_6
 have HB := Aside0.mk (Below.refl w.heap.size w)
 have H : (if ak.toList = ([] : List UInt8) then (if ai.toList = ([] : List UInt8) then (r6_Subtags.j0 k ([] : List ByteArray) ai au aq ar av ac aj ak) else (if ([] : List ByteArray).length < 8796093022208 then (r6_Subtags.j0 k (([] : List ByteArray) ++ [ai]) ai au aq ar av ac aj ak) else (none))) else ((r4_Split.f k ak).bind fun e3 => (some e3))) = some r := h
 clear h
 by_cases c2 : ak.toList = ([] : List UInt8)
 ·rw [if_pos c2] at H
  have dE : (ak.toList == ([] : List UInt8)) = true := beq_iff_eq.mpr c2
  have fg : ak.toList.isEmpty = true := List.isEmpty_iff.2 c2
  have gW : (!ak.toList.isEmpty) = false := by rw [fg]; rfl
  have dF : (ak.toList != ([] : List UInt8)) = false := bne_eq_false_iff_eq.mpr c2
  clear c2
  have gX := Aside0.mk H
  clear H
  go_enter Try.func22, Try.ntmps22
  go_upto_if 17 with (first | ((with_reducible refine gate_dst (N := 1) rfl ?_); refine box_event ?hg (N := 1) ?hd (cs := #[.string ai, .slice aC au.length ax, .string aq, .string ar, .slice aD av.length ay, .slice aG ac.length az, .slice aE aj.length aA, .string ak]) (t := 34) ?hr ?_; (case hd => rfl); (case hg => rfl); (case hr => first | (go_simp; done) | (go_simp; rfl)); intro ap hg w4 hbox hb; have b7 := Aside0.mk (below_step (Qw HB.out) hb); have b8 := Aside0.mk (hbox); have b9 := Aside0.mk ((by rw [hg]; exact (wZ_ (Qw HB.out)) : w.heap.size ≤ ap)); have fq := Aside0.mk ((by rw [hg]; exact (wZ_ (Qw HB.out)) : w.heap.size ≤ ap)); clear HB; have HB := b7; have aa := b8; have GW278 := b9; have al := fq; clear b7 b8 b9 fq; clear hb hbox hg; have aH : w4.cell? ⟨ap, 0, none⟩ = some (.string ai) := (bC_ aa.out 0).trans rfl; have aI : w4.cell? ⟨ap, 1, none⟩ = some (.slice aC au.length ax) := (bC_ aa.out 1).trans rfl; have aJ : w4.cell? ⟨ap, 2, none⟩ = some (.string aq) := (bC_ aa.out 2).trans rfl; have aK : w4.cell? ⟨ap, 3, none⟩ = some (.string ar) := (bC_ aa.out 3).trans rfl; have aM : w4.cell? ⟨ap, 4, none⟩ = some (.slice aD av.length ay) := (bC_ aa.out 4).trans rfl; have aN : w4.cell? ⟨ap, 5, none⟩ = some (.slice aG ac.length az) := (bC_ aa.out 5).trans rfl; have aQ : w4.cell? ⟨ap, 6, none⟩ = some (.slice aE aj.length aA) := (bC_ aa.out 6).trans rfl; have aR : w4.cell? ⟨ap, 7, none⟩ = some (.string ak) := (bC_ aa.out 7).trans rfl; have aT := bF_ aa.out 0; have aU := bF_ aa.out 1; have aV := bF_ aa.out 2; have aW := bF_ aa.out 3; have aX := bF_ aa.out 4; have aY := bF_ aa.out 5; have aZ := bF_ aa.out 6; have a0 := bF_ aa.out 7))
  (try simp only [Act.put, List.setIfInBounds_toArray, List.set_cons_zero, List.set_cons_succ])
  go_cut [3] (fun v3 wc => ∃ (kq : Nat) (cO : List ByteArray), Aside0 (r6_Subtags.j0 kq cO ai au aq ar av ac aj ak = some r) ∧ Aside0 (kq ≤ k) ∧ Aside0 (Kd.R Kd.string 9 wc w.heap.size (fun _ => True) v3 cO) ∧ Aside0 (wc.heap[ap]? = some (.cells #[.string ai, (.slice aC au.length ax), .string aq, .string ar, (.slice aD av.length ay), (.slice aG ac.length az), (.slice aE aj.length aA), .string ak] 34 (0, 0))) ∧ Aside0 (Below w.heap.size w wc))
  case first =>
   have H := gX.out
   clear gX
   by_cases c6 : ai.toList = ([] : List UInt8)
   ·rw [if_pos c6] at H
    have cP : (ai.toList == ([] : List UInt8)) = true := beq_iff_eq.mpr c6
    have e5 : ai.toList.isEmpty = true := List.isEmpty_iff.2 c6
    have fh : (!ai.toList.isEmpty) = false := by rw [e5]; rfl
    have cU : (ai.toList != ([] : List UInt8)) = false := bne_eq_false_iff_eq.mpr c6
    clear c6
    (first | rw [fh] | rw [e5] | rw [cP] | rw [cU] | (simp only [i64_w, i32_w]; rw [cP]) | skip)
    have H' := Aside0.mk H
    clear H
    go_wp2
    go_meet
    case rel => exact ⟨_, (([] : List ByteArray)), H', ⟨by first | omega | exact Nat.le_refl _⟩, ⟨by first | exact Kd.R_nil _ _ _ _ _ | exact Kd.N_nil _ _ _ _ _ | exact Kd.V_nil _ _ _ _ _ | exact Kd.Q_nil _ _ _ _ _ | exact Kd.S_nil _ _ _ _ _⟩, ⟨Qb aa.out⟩, ⟨Qv HB.out al.out⟩⟩
   ·rw [if_neg c6] at H
    have cP : (ai.toList == ([] : List UInt8)) = false := beq_eq_false_iff_ne.mpr c6
    have e5 : ai.toList.isEmpty = false := List.isEmpty_eq_false_iff.2 c6
    have fh : (!ai.toList.isEmpty) = true := by rw [e5]; rfl
    have cU : (ai.toList != ([] : List UInt8)) = true := bne_iff_ne.mpr c6
    (first | rw [fh] | rw [e5] | rw [cP] | rw [cU] | (simp only [i64_w, i32_w]; rw [cP]) | skip)
    by_cases c7 : ([] : List ByteArray).length < 8796093022208
    ·rw [if_pos c7] at H
     have gY := Aside0.mk c7
     clear c7
     obtain ⟨fr, dX⟩ : ∃ y_ : List ByteArray, y_ = (([] : List ByteArray) ++ [ai]) := ⟨_, rfl⟩
     replace H : (r6_Subtags.j0 k fr ai au aq ar av ac aj ak) = some r := by first | (rw [dX]; with_reducible exact H) | (have H2_ := (Option.bind_some _ _).symm.trans H; rw [dX]; with_reducible exact H2_) | (have H2_ := (Option.bind_some _ _).symm.trans H; with_reducible exact H2_) | with_reducible exact H | (rw [dX]; exact H) | exact H
     have fs := Aside0.mk dX
     clear dX
     have H' := Aside0.mk H
     clear H
     obtain ⟨a1, a2, a3, a4, a5, a6, a7, a8, a9, ba, bb, bc, bd, be, bf, bg⟩ := c8_12 aa.out
     go_wp2_with (first | ((with_reducible refine gate_builtin (b := .append) (xs := #[.tmp 18, .tmp 21]) rfl ?_); at_builtin; refine Kd.R_append Kd.string (w0 := w) w.heap.size rfl (.tmp 18) (.tmp 21) 25 9 (.string ⟨#[]⟩) 16 rfl Try.underlying25 info9 rfl (by decide) (by omega) (.slice none 0 0) ([] : List ByteArray) ai [.string ai] (fun _ => True) (fun _ => False) rfl rfl ?aP (fun _ hk => hk.elim) ?aF ?aO ?aB ?aS ?aL ?_; (case aP => exact rfl); (case aB => exact (Qv HB.out al.out)); (case aF => exact (fun _ _ => trivial)); (case aO => exact ((Kd.R_nil _ _ _ _ (fun _ => True)))); (case aS => exact (wZ_ (Qv HB.out al.out))); (case aL => have := gY.out; omega); intro v283 w9 ho hb hg hat; rw [← fs.out] at ho; have b7 := Aside0.mk (blk_grown (g := ap) (o := .cells #[.string ai, .slice aC au.length ax, .string aq, .string ar, .slice aD av.length ay, .slice aG ac.length az, .slice aE aj.length aA, .string ak] 34 (0, 0)) (Qb aa.out) hg (by simp [Value.ownBlock])); have b8 := Aside0.mk (hb); have b9 := Aside0.mk (ho); clear aa; clear HB; have aa := b7; have HB := b8; have ft := b9; clear b7 b8 b9; clear ho hb hg hat))
     go_meet
     case rel => exact ⟨_, (fr), H', ⟨by first | omega | exact Nat.le_refl _⟩, ⟨Qr ft.out⟩, ⟨Qb aa.out⟩, ⟨Qv HB.out al.out⟩⟩
    ·rw [if_neg c7] at H
     exact absurd H (by simp)
  case rest =>
   clear gX
   try clear c2; try clear dE; try clear dF; try clear p2; try clear c6; try clear cP; try clear cU; try clear c7
   try clear aH aI aJ aK aM aN aQ aR; try clear a1 a2 a3 a4 a5 a6 a7 a8; try clear aT aU aV aW aX aY aZ a0; try clear a9 ba bb bc bd be bf bg
   obtain ⟨kq, cO, HA, HJ2, HO_3, aa, HB⟩ := hcut
   cases kq with
   | zero => exact absurd HA.out (by simp [r6_Subtags.j0])
   | succ kj2 =>
    have H := HA.out
    clear HA
    simp only [r6_Subtags.j0] at H
    have H' := Aside0.mk H
    clear H
    go_wp2
    go_loopg [3, 4] kj2 (fun kq v3 v4 w' => ∃ (cO : List ByteArray) (cI : Int), v4 = .int .i64 cI ∧ Aside0 (r6_Subtags.l0 kq cO cI ai au aq ar av ac aj ak = some r) ∧ Aside0 (kq ≤ kj2) ∧ Aside0 (Kd.R Kd.string 9 w' w.heap.size (fun _ => True) v3 cO) ∧ Aside0 (w'.heap[ap]? = some (.cells #[.string ai, (.slice aC au.length ax), .string aq, .string ar, (.slice aD av.length ay), (.slice aG ac.length az), (.slice aE aj.length aA), .string ak] 34 (0, 0))) ∧ Aside0 (Below w.heap.size w w'))
    case atStart => exact ⟨(cO), (0), Qs, H', ⟨Nat.le_refl _⟩, ⟨Qr HO_3.out⟩, ⟨Qb aa.out⟩, ⟨Qv HB.out al.out⟩⟩
    case round =>
     clear H'
     try clear c2; try clear dE; try clear dF; try clear p2; try clear c6; try clear cP; try clear cU; try clear c7
     try clear aH aI aJ aK aM aN aQ aR; try clear a1 a2 a3 a4 a5 a6 a7 a8; try clear aT aU aV aW aX aY aZ a0; try clear a9 ba bb bc bd be bf bg
     try clear p2
     obtain ⟨cO, cI, rfl, HA, HK2, HO_3, aa, HB⟩ := hrel
     cases gk with
     | zero => exact absurd HA.out (by simp [r6_Subtags.l0])
     | succ k2 =>
      have H := HA.out
      clear HA
      simp only [r6_Subtags.l0] at H
      by_cases c10 : cI < (au.length : Int)
      ·rw [if_pos c10] at H
       have cS : decide (cI < (au.length : Int)) = true := decide_eq_true c10
       clear c10
       by_cases c11 : 0 ≤ cI
       ·rw [if_pos c11] at H
        have dB : decide (0 ≤ cI) = true := decide_eq_true c11
        clear c11
        by_cases c12 : cO.length < 8796093022208
        ·rw [if_pos c12] at H
         have fu := Aside0.mk c12
         clear c12
         obtain ⟨fv, dY⟩ : ∃ y_ : List ByteArray, y_ = (cO ++ [rdOf ByteArray.empty au cI]) := ⟨_, rfl⟩
         replace H : (r6_Subtags.l0 k2 fv (wrap64 (cI + 1)) ai au aq ar av ac aj ak) = some r := by first | (rw [dY]; with_reducible exact H) | (have H2_ := (Option.bind_some _ _).symm.trans H; rw [dY]; with_reducible exact H2_) | (have H2_ := (Option.bind_some _ _).symm.trans H; with_reducible exact H2_) | with_reducible exact H | (rw [dY]; exact H) | exact H
         have fw := Aside0.mk dY
         clear dY
         have H' := Aside0.mk H
         clear H
         obtain ⟨bh, bi, bj, bk, bm, bn, bo, bp, bq, br, bs, bu, bv, bw, bx, bz⟩ := c8_12 aa.out
         have p285 : 0 ≤ (cI : Int) := of_decide_eq_true Qa
         have q285 : cI < (au.length : Int) := of_decide_eq_true Qa
         obtain ⟨ad285, e285, hx285_0⟩ := Kd.at_string fn.out cI p285 q285
         cases e285
         replace hx285_0 := (HB.out.cell (World.block_lt_of_cell? w _ hx285_0)).trans hx285_0
         replace p285 := eq_true p285
         replace q285 := eq_true q285
         go_wp2_with (first | ((with_reducible refine gate_builtin (b := .append) (xs := #[.tmp 30, .tmp 36]) rfl ?_); at_builtin; refine Kd.R_append Kd.string (w0 := w) w.heap.size rfl (.tmp 30) (.tmp 36) 25 9 (.string ⟨#[]⟩) 16 rfl Try.underlying25 info9 rfl (by decide) (by omega) u3 cO (rdOf ByteArray.empty au cI) [.string (rdOf ByteArray.empty au cI)] (fun _ => True) (fun _ => False) rfl rfl ?aP (fun _ hk => hk.elim) ?aF ?aO ?aB ?aS ?aL ?_; (case aP => exact rfl); (case aB => exact (Qv HB.out al.out)); (case aF => exact (fun _ _ => trivial)); (case aO => exact (Qr HO_3.out)); (case aS => exact (wZ_ (Qv HB.out al.out))); (case aL => have := fu.out; omega); intro v287 w14 ho hb hg hat; rw [← fw.out] at ho; have b7 := Aside0.mk (blk_grown (g := ap) (o := .cells #[.string ai, .slice (some ad285) au.length ax, .string aq, .string ar, .slice aD av.length ay, .slice aG ac.length az, .slice aE aj.length aA, .string ak] 34 (0, 0)) (Qb aa.out) hg (Kd.R_ne HO_3.out aa.out (by decide))); have b8 := Aside0.mk (hb); have b9 := Aside0.mk (ho); clear aa; clear HB; clear HO_3; have aa := b7; have HB := b8; have fx := b9; clear b7 b8 b9; clear ho hb hg hat))
         go_roundg k2
         case measure => have := HJ2.out; have := HK2.out; omega
         case rel => exact ⟨(fv), (wrap64 (cI + 1)), Qs, H', ⟨by have := HJ2.out; have := HK2.out; omega⟩, ⟨Qr fx.out⟩, ⟨Qb aa.out⟩, ⟨Qv HB.out al.out⟩⟩
        ·rw [if_neg c12] at H
         exact absurd H (by simp)
       ·rw [if_neg c11] at H
        exact absurd H (by simp)
      ·rw [if_neg c10] at H
       have cS : decide (cI < (au.length : Int)) = false := decide_eq_false c10
       clear c10
       have fi := Aside0.mk H
       clear H
       obtain ⟨bA, bB, bC, bD, bE, bF, bG, bH, bI, bJ, bK, bL, bM, bN, bO, bP⟩ := c8_12 aa.out
       go_upto_if 40 with (fail)
       go_cut [3] (fun v3 wc => ∃ (kq : Nat) (dC : List ByteArray), Aside0 (r6_Subtags.j2 kq dC ai au aq ar av ac aj ak = some r) ∧ Aside0 (kq ≤ k2) ∧ Aside0 (Kd.R Kd.string 9 wc w.heap.size (fun _ => True) v3 dC) ∧ Aside0 (wc.heap[ap]? = some (.cells #[.string ai, (.slice aC au.length ax), .string aq, .string ar, (.slice aD av.length ay), (.slice aG ac.length az), (.slice aE aj.length aA), .string ak] 34 (0, 0))) ∧ Aside0 (Below w.heap.size w wc))
       case first =>
        have H := fi.out
        clear fi
        by_cases c17 : aq.toList = ([] : List UInt8)
        ·rw [if_pos c17] at H
         have b6 : (aq.toList == ([] : List UInt8)) = true := beq_iff_eq.mpr c17
         have dZ : aq.toList.isEmpty = true := List.isEmpty_iff.2 c17
         have e6 : (!aq.toList.isEmpty) = false := by rw [dZ]; rfl
         have cN : (aq.toList != ([] : List UInt8)) = false := bne_eq_false_iff_eq.mpr c17
         clear c17
         (first | rw [e6] | rw [dZ] | rw [b6] | rw [cN] | (simp only [i64_w, i32_w]; rw [b6]) | skip)
         have H' := Aside0.mk H
         clear H
         go_wp2
         go_meet
         case rel => exact ⟨_, (cO), H', ⟨by have := HJ2.out; have := HK2.out; first | omega | exact Nat.le_refl _⟩, ⟨Qr HO_3.out⟩, ⟨Qb aa.out⟩, ⟨Qv HB.out al.out⟩⟩
        ·rw [if_neg c17] at H
         have b6 : (aq.toList == ([] : List UInt8)) = false := beq_eq_false_iff_ne.mpr c17
         have dZ : aq.toList.isEmpty = false := List.isEmpty_eq_false_iff.2 c17
         have e6 : (!aq.toList.isEmpty) = true := by rw [dZ]; rfl
         have cN : (aq.toList != ([] : List UInt8)) = true := bne_iff_ne.mpr c17
         (first | rw [e6] | rw [dZ] | rw [b6] | rw [cN] | (simp only [i64_w, i32_w]; rw [b6]) | skip)
         by_cases c18 : cO.length < 8796093022208
         ·rw [if_pos c18] at H
          have fy := Aside0.mk c18
          clear c18
          obtain ⟨fz, d0⟩ : ∃ y_ : List ByteArray, y_ = (cO ++ [aq]) := ⟨_, rfl⟩
          replace H : (r6_Subtags.j2 k2 fz ai au aq ar av ac aj ak) = some r := by first | (rw [d0]; with_reducible exact H) | (have H2_ := (Option.bind_some _ _).symm.trans H; rw [d0]; with_reducible exact H2_) | (have H2_ := (Option.bind_some _ _).symm.trans H; with_reducible exact H2_) | with_reducible exact H | (rw [d0]; exact H) | exact H
          have fA := Aside0.mk d0
          clear d0
          have H' := Aside0.mk H
          clear H
          obtain ⟨bQ, bR, bS, bT, bU, bV, bW, bX, bY, bZ, b0, b1, b2, b3, b4, b5⟩ := c8_12 aa.out
          go_wp2_with (first | ((with_reducible refine gate_builtin (b := .append) (xs := #[.tmp 41, .tmp 44]) rfl ?_); at_builtin; refine Kd.R_append Kd.string (w0 := w) w.heap.size rfl (.tmp 41) (.tmp 44) 25 9 (.string ⟨#[]⟩) 16 rfl Try.underlying25 info9 rfl (by decide) (by omega) u3 cO aq [.string aq] (fun _ => True) (fun _ => False) rfl rfl ?aP (fun _ hk => hk.elim) ?aF ?aO ?aB ?aS ?aL ?_; (case aP => exact rfl); (case aB => exact (Qv HB.out al.out)); (case aF => exact (fun _ _ => trivial)); (case aO => exact (Qr HO_3.out)); (case aS => exact (wZ_ (Qv HB.out al.out))); (case aL => have := fy.out; omega); intro v290 w20 ho hb hg hat; rw [← fA.out] at ho; have b7 := Aside0.mk (blk_grown (g := ap) (o := .cells #[.string ai, .slice aC au.length ax, .string aq, .string ar, .slice aD av.length ay, .slice aG ac.length az, .slice aE aj.length aA, .string ak] 34 (0, 0)) (Qb aa.out) hg (Kd.R_ne HO_3.out aa.out (by decide))); have b8 := Aside0.mk (hb); have b9 := Aside0.mk (ho); clear aa; clear HB; clear HO_3; have aa := b7; have HB := b8; have fB := b9; clear b7 b8 b9; clear ho hb hg hat))
          go_meet
          case rel => exact ⟨_, (fz), H', ⟨by have := HJ2.out; have := HK2.out; first | omega | exact Nat.le_refl _⟩, ⟨Qr fB.out⟩, ⟨Qb aa.out⟩, ⟨Qv HB.out al.out⟩⟩
         ·rw [if_neg c18] at H
          exact absurd H (by simp)
       case rest =>
        clear fi
        try clear c1; try clear c2; try clear dE; try clear dF; try clear p2; try clear q2; try clear hx2; try clear c6; try clear cP; try clear cU; try clear p6; try clear c7; try clear c10; try clear cS; try clear c11; try clear dB; try clear c12; try clear c17; try clear b6; try clear cN; try clear c18
        try clear bh bi bj bk bm bn bo bp; try clear bA bB bC bD bE bF bG bH; try clear bQ bR bS bT bU bV bW bX; try clear aH aI aJ aK aM aN aQ aR; try clear a1 a2 a3 a4 a5 a6 a7 a8; try clear bq br bs bu bv bw bx bz; try clear bI bJ bK bL bM bN bO bP; try clear bY bZ b0 b1 b2 b3 b4 b5; try clear aT aU aV aW aX aY aZ a0; try clear a9 ba bb bc bd be bf bg
        try clear hx285_0; try clear p2; try clear p285; try clear q285
        obtain ⟨kq, dC, HA, HJ14, HO_3, aa, HB⟩ := hcut
        cases kq with
        | zero => exact absurd HA.out (by simp [r6_Subtags.j2])
        | succ kj14 =>
         have H := HA.out
         clear HA
         simp only [r6_Subtags.j2] at H
         have fj := Aside0.mk H
         clear H
         obtain ⟨cb, cc, cd, ce, cf, cg, ch, ci, cj, ck, cl, cm, cn, co, cp, cq⟩ := c8_12 aa.out
         go_upto_if 48 with (fail)
         go_cut [3] (fun v3 wc => ∃ (kq : Nat) (ed : List ByteArray), Aside0 (r6_Subtags.j3 kq ed ai au aq ar av ac aj ak = some r) ∧ Aside0 (kq ≤ kj14) ∧ Aside0 (Kd.R Kd.string 9 wc w.heap.size (fun _ => True) v3 ed) ∧ Aside0 (wc.heap[ap]? = some (.cells #[.string ai, (.slice aC au.length ax), .string aq, .string ar, (.slice aD av.length ay), (.slice aG ac.length az), (.slice aE aj.length aA), .string ak] 34 (0, 0))) ∧ Aside0 (Below w.heap.size w wc))
         case first =>
          have H := fj.out
          clear fj
          by_cases c23 : ar.toList = ([] : List UInt8)
          ·rw [if_pos c23] at H
           have ca : (ar.toList == ([] : List UInt8)) = true := beq_iff_eq.mpr c23
           have d1 : ar.toList.isEmpty = true := List.isEmpty_iff.2 c23
           have e7 : (!ar.toList.isEmpty) = false := by rw [d1]; rfl
           have cQ : (ar.toList != ([] : List UInt8)) = false := bne_eq_false_iff_eq.mpr c23
           clear c23
           (first | rw [e7] | rw [d1] | rw [ca] | rw [cQ] | (simp only [i64_w, i32_w]; rw [ca]) | skip)
           have H' := Aside0.mk H
           clear H
           go_wp2
           go_meet
           case rel => exact ⟨_, (dC), H', ⟨by have := HJ2.out; have := HK2.out; have := HJ14.out; first | omega | exact Nat.le_refl _⟩, ⟨Qr HO_3.out⟩, ⟨Qb aa.out⟩, ⟨Qv HB.out al.out⟩⟩
          ·rw [if_neg c23] at H
           have ca : (ar.toList == ([] : List UInt8)) = false := beq_eq_false_iff_ne.mpr c23
           have d1 : ar.toList.isEmpty = false := List.isEmpty_eq_false_iff.2 c23
           have e7 : (!ar.toList.isEmpty) = true := by rw [d1]; rfl
           have cQ : (ar.toList != ([] : List UInt8)) = true := bne_iff_ne.mpr c23
           (first | rw [e7] | rw [d1] | rw [ca] | rw [cQ] | (simp only [i64_w, i32_w]; rw [ca]) | skip)
           by_cases c24 : dC.length < 8796093022208
           ·rw [if_pos c24] at H
            have fC := Aside0.mk c24
            clear c24
            obtain ⟨fD, d2⟩ : ∃ y_ : List ByteArray, y_ = (dC ++ [ar]) := ⟨_, rfl⟩
            replace H : (r6_Subtags.j3 kj14 fD ai au aq ar av ac aj ak) = some r := by first | (rw [d2]; with_reducible exact H) | (have H2_ := (Option.bind_some _ _).symm.trans H; rw [d2]; with_reducible exact H2_) | (have H2_ := (Option.bind_some _ _).symm.trans H; with_reducible exact H2_) | with_reducible exact H | (rw [d2]; exact H) | exact H
            have fE := Aside0.mk d2
            clear d2
            have H' := Aside0.mk H
            clear H
            obtain ⟨cr, ct, cu, cv, cw, cx, cy, cz, cA, cB, cC, cD, cE, cF, cG, cH⟩ := c8_12 aa.out
            go_wp2_with (first | ((with_reducible refine gate_builtin (b := .append) (xs := #[.tmp 49, .tmp 52]) rfl ?_); at_builtin; refine Kd.R_append Kd.string (w0 := w) w.heap.size rfl (.tmp 49) (.tmp 52) 25 9 (.string ⟨#[]⟩) 16 rfl Try.underlying25 info9 rfl (by decide) (by omega) u3 dC ar [.string ar] (fun _ => True) (fun _ => False) rfl rfl ?aP (fun _ hk => hk.elim) ?aF ?aO ?aB ?aS ?aL ?_; (case aP => exact rfl); (case aB => exact (Qv HB.out al.out)); (case aF => exact (fun _ _ => trivial)); (case aO => exact (Qr HO_3.out)); (case aS => exact (wZ_ (Qv HB.out al.out))); (case aL => have := fC.out; omega); intro v293 w26 ho hb hg hat; rw [← fE.out] at ho; have b7 := Aside0.mk (blk_grown (g := ap) (o := .cells #[.string ai, .slice aC au.length ax, .string aq, .string ar, .slice aD av.length ay, .slice aG ac.length az, .slice aE aj.length aA, .string ak] 34 (0, 0)) (Qb aa.out) hg (Kd.R_ne HO_3.out aa.out (by decide))); have b8 := Aside0.mk (hb); have b9 := Aside0.mk (ho); clear aa; clear HB; clear HO_3; have aa := b7; have HB := b8; have fF := b9; clear b7 b8 b9; clear ho hb hg hat))
            go_meet
            case rel => exact ⟨_, (fD), H', ⟨by have := HJ2.out; have := HK2.out; have := HJ14.out; first | omega | exact Nat.le_refl _⟩, ⟨Qr fF.out⟩, ⟨Qb aa.out⟩, ⟨Qv HB.out al.out⟩⟩
           ·rw [if_neg c24] at H
            exact absurd H (by simp)
         case rest =>
          clear fj
          try clear c1; try clear c2; try clear dE; try clear dF; try clear p2; try clear q2; try clear hx2; try clear c6; try clear cP; try clear cU; try clear p6; try clear c7; try clear c10; try clear cS; try clear c11; try clear dB; try clear c12; try clear c17; try clear b6; try clear cN; try clear c18; try clear c22; try clear c23; try clear ca; try clear cQ; try clear c24
          try clear bh bi bj bk bm bn bo bp; try clear bA bB bC bD bE bF bG bH; try clear bQ bR bS bT bU bV bW bX; try clear cb cc cd ce cf cg ch ci; try clear cr ct cu cv cw cx cy cz; try clear aH aI aJ aK aM aN aQ aR; try clear a1 a2 a3 a4 a5 a6 a7 a8; try clear bq br bs bu bv bw bx bz; try clear bI bJ bK bL bM bN bO bP; try clear bY bZ b0 b1 b2 b3 b4 b5; try clear cj ck cl cm cn co cp cq; try clear cA cB cC cD cE cF cG cH; try clear aT aU aV aW aX aY aZ a0; try clear a9 ba bb bc bd be bf bg
          try clear hx285_0; try clear p2; try clear p285; try clear p6; try clear q2; try clear q285
          obtain ⟨kq, ed, HA, HJ20, HO_3, aa, HB⟩ := hcut
          cases kq with
          | zero => exact absurd HA.out (by simp [r6_Subtags.j3])
          | succ kj20 =>
           have H := HA.out
           clear HA
           simp only [r6_Subtags.j3] at H
           have H' := Aside0.mk H
           clear H
           go_wp2
           go_loopg [3, 5] kj20 (fun kq v3 v5 w' => ∃ (ea : List ByteArray) (cJ : Int), v5 = .int .i64 cJ ∧ Aside0 (r6_Subtags.l1 kq ea cJ ai au aq ar av ac aj ak = some r) ∧ Aside0 (kq ≤ kj20) ∧ Aside0 (Kd.R Kd.string 9 w' w.heap.size (fun _ => True) v3 ea) ∧ Aside0 (w'.heap[ap]? = some (.cells #[.string ai, (.slice aC au.length ax), .string aq, .string ar, (.slice aD av.length ay), (.slice aG ac.length az), (.slice aE aj.length aA), .string ak] 34 (0, 0))) ∧ Aside0 (Below w.heap.size w w'))
           case atStart => exact ⟨(ed), (0), Qs, H', ⟨Nat.le_refl _⟩, ⟨Qr HO_3.out⟩, ⟨Qb aa.out⟩, ⟨Qv HB.out al.out⟩⟩
           case round =>
            clear H'
            try clear c1; try clear c2; try clear dE; try clear dF; try clear p2; try clear q2; try clear hx2; try clear c6; try clear cP; try clear cU; try clear p6; try clear c7; try clear c10; try clear cS; try clear c11; try clear dB; try clear c12; try clear c17; try clear b6; try clear cN; try clear c18; try clear c22; try clear c23; try clear ca; try clear cQ; try clear c24
            try clear bh bi bj bk bm bn bo bp; try clear bA bB bC bD bE bF bG bH; try clear bQ bR bS bT bU bV bW bX; try clear cb cc cd ce cf cg ch ci; try clear cr ct cu cv cw cx cy cz; try clear aH aI aJ aK aM aN aQ aR; try clear a1 a2 a3 a4 a5 a6 a7 a8; try clear bq br bs bu bv bw bx bz; try clear bI bJ bK bL bM bN bO bP; try clear bY bZ b0 b1 b2 b3 b4 b5; try clear cj ck cl cm cn co cp cq; try clear cA cB cC cD cE cF cG cH; try clear aT aU aV aW aX aY aZ a0; try clear a9 ba bb bc bd be bf bg
            try clear hx285_0; try clear p2; try clear p285; try clear p6; try clear q2; try clear q285
            obtain ⟨ea, cJ, rfl, HA, HK5, HO_3, aa, HB⟩ := hrel
            cases gk with
            | zero => exact absurd HA.out (by simp [r6_Subtags.l1])
            | succ k5 =>
             have H := HA.out
             clear HA
             simp only [r6_Subtags.l1] at H
             by_cases c27 : cJ < (av.length : Int)
             ·rw [if_pos c27] at H
              have d3 : decide (cJ < (av.length : Int)) = true := decide_eq_true c27
              clear c27
              by_cases c28 : 0 ≤ cJ
              ·rw [if_pos c28] at H
               have ee : decide (0 ≤ cJ) = true := decide_eq_true c28
               clear c28
               by_cases c29 : ea.length < 8796093022208
               ·rw [if_pos c29] at H
                have fG := Aside0.mk c29
                clear c29
                obtain ⟨fH, d4⟩ : ∃ y_ : List ByteArray, y_ = (ea ++ [rdOf ByteArray.empty av cJ]) := ⟨_, rfl⟩
                replace H : (r6_Subtags.l1 k5 fH (wrap64 (cJ + 1)) ai au aq ar av ac aj ak) = some r := by first | (rw [d4]; with_reducible exact H) | (have H2_ := (Option.bind_some _ _).symm.trans H; rw [d4]; with_reducible exact H2_) | (have H2_ := (Option.bind_some _ _).symm.trans H; with_reducible exact H2_) | with_reducible exact H | (rw [d4]; exact H) | exact H
                have fI := Aside0.mk d4
                clear d4
                have H' := Aside0.mk H
                clear H
                obtain ⟨cV, cW, cX, cY, cZ, c0, da, db, dc, dd, de, df, dg, dh, di, dj⟩ := c8_12 aa.out
                have p295 : 0 ≤ (cJ : Int) := of_decide_eq_true Qa
                have q295 : cJ < (av.length : Int) := of_decide_eq_true Qa
                obtain ⟨ad295, e295, hx295_0⟩ := Kd.at_string fo.out cJ p295 q295
                cases e295
                replace hx295_0 := (HB.out.cell (World.block_lt_of_cell? w _ hx295_0)).trans hx295_0
                replace p295 := eq_true p295
                replace q295 := eq_true q295
                go_wp2_with (first | ((with_reducible refine gate_builtin (b := .append) (xs := #[.tmp 61, .tmp 67]) rfl ?_); at_builtin; refine Kd.R_append Kd.string (w0 := w) w.heap.size rfl (.tmp 61) (.tmp 67) 25 9 (.string ⟨#[]⟩) 16 rfl Try.underlying25 info9 rfl (by decide) (by omega) u3 ea (rdOf ByteArray.empty av cJ) [.string (rdOf ByteArray.empty av cJ)] (fun _ => True) (fun _ => False) rfl rfl ?aP (fun _ hk => hk.elim) ?aF ?aO ?aB ?aS ?aL ?_; (case aP => exact rfl); (case aB => exact (Qv HB.out al.out)); (case aF => exact (fun _ _ => trivial)); (case aO => exact (Qr HO_3.out)); (case aS => exact (wZ_ (Qv HB.out al.out))); (case aL => have := fG.out; omega); intro v297 w31 ho hb hg hat; rw [← fI.out] at ho; have b7 := Aside0.mk (blk_grown (g := ap) (o := .cells #[.string ai, .slice aC au.length ax, .string aq, .string ar, .slice (some ad295) av.length ay, .slice aG ac.length az, .slice aE aj.length aA, .string ak] 34 (0, 0)) (Qb aa.out) hg (Kd.R_ne HO_3.out aa.out (by decide))); have b8 := Aside0.mk (hb); have b9 := Aside0.mk (ho); clear aa; clear HB; clear HO_3; have aa := b7; have HB := b8; have fJ := b9; clear b7 b8 b9; clear ho hb hg hat))
                go_roundg k5
                case measure => have := HJ2.out; have := HK2.out; have := HJ14.out; have := HJ20.out; have := HK5.out; omega
                case rel => exact ⟨(fH), (wrap64 (cJ + 1)), Qs, H', ⟨by have := HJ2.out; have := HK2.out; have := HJ14.out; have := HJ20.out; have := HK5.out; omega⟩, ⟨Qr fJ.out⟩, ⟨Qb aa.out⟩, ⟨Qv HB.out al.out⟩⟩
               ·rw [if_neg c29] at H
                exact absurd H (by simp)
              ·rw [if_neg c28] at H
               exact absurd H (by simp)
             ·rw [if_neg c27] at H
              have d3 : decide (cJ < (av.length : Int)) = false := decide_eq_false c27
              clear c27
              have H' := Aside0.mk H
              clear H
              obtain ⟨dk, dl, dm, dn, dp, dq, dr, ds, dt, du, dv, dw, dx, dy, dz, dA⟩ := c8_12 aa.out
              go_wp2
              go_loopg [3, 6] k5 (fun kq v3 v6 w' => ∃ (dG : List ByteArray) (aw : Int), v6 = .int .i64 aw ∧ Aside0 (r6_Subtags.l2 kq dG aw ai au aq ar av ac aj ak = some r) ∧ Aside0 (kq ≤ k5) ∧ Aside0 (Kd.R Kd.string 9 w' w.heap.size (fun _ => True) v3 dG) ∧ Aside0 (w'.heap[ap]? = some (.cells #[.string ai, (.slice aC au.length ax), .string aq, .string ar, (.slice aD av.length ay), (.slice aG ac.length az), (.slice aE aj.length aA), .string ak] 34 (0, 0))) ∧ Aside0 (Below w.heap.size w w'))
              case atStart => exact ⟨(ea), (0), Qs, H', ⟨Nat.le_refl _⟩, ⟨Qr HO_3.out⟩, ⟨Qb aa.out⟩, ⟨Qv HB.out al.out⟩⟩
              case round =>
               clear H'
               try clear c1; try clear c2; try clear dE; try clear dF; try clear p2; try clear q2; try clear hx2; try clear c6; try clear cP; try clear cU; try clear p6; try clear c7; try clear c10; try clear cS; try clear c11; try clear dB; try clear c12; try clear c17; try clear b6; try clear cN; try clear c18; try clear c22; try clear c23; try clear ca; try clear cQ; try clear c24; try clear c27; try clear d3; try clear c28; try clear ee; try clear p28; try clear q28; try clear hx28; try clear c29; try clear p29; try clear q29; try clear hx29
               try clear bh bi bj bk bm bn bo bp; try clear bA bB bC bD bE bF bG bH; try clear bQ bR bS bT bU bV bW bX; try clear cb cc cd ce cf cg ch ci; try clear cr ct cu cv cw cx cy cz; try clear cV cW cX cY cZ c0 da db; try clear dk dl dm dn dp dq dr ds; try clear aH aI aJ aK aM aN aQ aR; try clear a1 a2 a3 a4 a5 a6 a7 a8; try clear bq br bs bu bv bw bx bz; try clear bI bJ bK bL bM bN bO bP; try clear bY bZ b0 b1 b2 b3 b4 b5; try clear cj ck cl cm cn co cp cq; try clear cA cB cC cD cE cF cG cH; try clear dc dd de df dg dh di dj; try clear dt du dv dw dx dy dz dA; try clear aT aU aV aW aX aY aZ a0; try clear a9 ba bb bc bd be bf bg
               try clear hx285_0; try clear hx295_0; try clear p2; try clear p285; try clear p295; try clear p6; try clear q2; try clear q285; try clear q295
               obtain ⟨dG, aw, rfl, HA, HK6, HO_3, aa, HB⟩ := hrel
               cases gk with
               | zero => exact absurd HA.out (by simp [r6_Subtags.l2])
               | succ k6 =>
                have H := HA.out
                clear HA
                simp only [r6_Subtags.l2] at H
                by_cases c33 : aw < (ac.length : Int)
                ·rw [if_pos c33] at H
                 have ef : decide (aw < (ac.length : Int)) = true := decide_eq_true c33
                 clear c33
                 by_cases c34 : 0 ≤ aw
                 ·rw [if_pos c34] at H
                  have e8 : decide (0 ≤ aw) = true := decide_eq_true c34
                  clear c34
                  by_cases c35 : dG.length < 8796093022208
                  ·rw [if_pos c35] at H
                   have fK := Aside0.mk c35
                   clear c35
                   obtain ⟨fL, d5⟩ : ∃ y_ : List ByteArray, y_ = (dG ++ [(rd_T62 ac aw).f0]) := ⟨_, rfl⟩
                   replace H : (r6_Subtags.l3 k6 fL aw 0 ai au aq ar av ac aj ak) = some r := by first | (rw [d5]; with_reducible exact H) | (have H2_ := (Option.bind_some _ _).symm.trans H; rw [d5]; with_reducible exact H2_) | (have H2_ := (Option.bind_some _ _).symm.trans H; with_reducible exact H2_) | with_reducible exact H | (rw [d5]; exact H) | exact H
                   have fM := Aside0.mk d5
                   clear d5
                   have H' := Aside0.mk H
                   clear H
                   obtain ⟨dH, dI, dJ, dK, dL, dM, dN, dO, dP, dQ, dR, dS, dT, dU, dV, dW⟩ := c8_12 aa.out
                   have p299 : 0 ≤ (aw : Int) := of_decide_eq_true Qa
                   have q299 : aw < (ac.length : Int) := of_decide_eq_true Qa
                   obtain ⟨ad299, gZ, g0, e299, hx299_0, hx299_1, hl299_1, hi299_1⟩ := at_T62 ec.out aw p299 q299
                   cases e299
                   replace hx299_0 := (HB.out.cell (World.block_lt_of_cell? w _ hx299_0)).trans hx299_0
                   replace hx299_1 := (HB.out.cell (World.block_lt_of_cell? w _ hx299_1)).trans hx299_1
                   have f5 := Aside0.mk hi299_1
                   have f6 := Aside0.mk hl299_1
                   clear hi299_1 hl299_1
                   replace p299 := eq_true p299
                   replace q299 := eq_true q299
                   go_wp2_with (first | ((with_reducible refine gate_builtin (b := .append) (xs := #[.tmp 76, .tmp 83]) rfl ?_); at_builtin; refine Kd.R_append Kd.string (w0 := w) w.heap.size rfl (.tmp 76) (.tmp 83) 25 9 (.string ⟨#[]⟩) 16 rfl Try.underlying25 info9 rfl (by decide) (by omega) u3 dG ((rd_T62 ac aw).f0) [.string ((rd_T62 ac aw).f0)] (fun _ => True) (fun _ => False) rfl rfl ?aP (fun _ hk => hk.elim) ?aF ?aO ?aB ?aS ?aL ?_; (case aP => exact rfl); (case aB => exact (Qv HB.out al.out)); (case aF => exact (fun _ _ => trivial)); (case aO => exact (Qr HO_3.out)); (case aS => exact (wZ_ (Qv HB.out al.out))); (case aL => have := fK.out; omega); intro v301 w37 ho hb hg hat; rw [← fM.out] at ho; have b7 := Aside0.mk (blk_grown (g := ap) (o := .cells #[.string ai, .slice aC au.length ax, .string aq, .string ar, .slice aD av.length ay, .slice (some ad299) ac.length az, .slice aE aj.length aA, .string ak] 34 (0, 0)) (Qb aa.out) hg (Kd.R_ne HO_3.out aa.out (by decide))); have b8 := Aside0.mk (hb); have b9 := Aside0.mk (ho); clear aa; clear HB; clear HO_3; have aa := b7; have HB := b8; have fN := b9; clear b7 b8 b9; clear ho hb hg hat))
                   go_loopg [3, 7] k6 (fun kq v3 v7 w' => ∃ (eb : List ByteArray) (cK : Int), v7 = .int .i64 cK ∧ Aside0 (r6_Subtags.l3 kq eb aw cK ai au aq ar av ac aj ak = some r) ∧ Aside0 (kq ≤ k6) ∧ Aside0 (Kd.R Kd.string 9 w' w.heap.size (fun _ => True) v3 eb) ∧ Aside0 (w'.heap[ap]? = some (.cells #[.string ai, (.slice aC au.length ax), .string aq, .string ar, (.slice aD av.length ay), (.slice (some ad299) ac.length az), (.slice aE aj.length aA), .string ak] 34 (0, 0))) ∧ Aside0 (Below w.heap.size w w'))
                   case atStart => exact ⟨(fL), (0), Qs, H', ⟨Nat.le_refl _⟩, ⟨Qr fN.out⟩, ⟨Qb aa.out⟩, ⟨Qv HB.out al.out⟩⟩
                   case round =>
                    clear H'
                    try clear c1; try clear c2; try clear dE; try clear dF; try clear p2; try clear q2; try clear hx2; try clear c3; try clear c6; try clear cP; try clear cU; try clear p6; try clear c7; try clear c10; try clear cS; try clear c11; try clear dB; try clear c12; try clear c17; try clear b6; try clear cN; try clear c18; try clear c22; try clear c23; try clear ca; try clear cQ; try clear c24; try clear c27; try clear d3; try clear c28; try clear ee; try clear p28; try clear q28; try clear hx28; try clear c29; try clear p29; try clear q29; try clear hx29; try clear c33; try clear ef; try clear c34; try clear e8; try clear c35
                    try clear bh bi bj bk bm bn bo bp; try clear bA bB bC bD bE bF bG bH; try clear bQ bR bS bT bU bV bW bX; try clear cb cc cd ce cf cg ch ci; try clear cr ct cu cv cw cx cy cz; try clear cV cW cX cY cZ c0 da db; try clear dk dl dm dn dp dq dr ds; try clear dH dI dJ dK dL dM dN dO; try clear aH aI aJ aK aM aN aQ aR; try clear a1 a2 a3 a4 a5 a6 a7 a8; try clear bq br bs bu bv bw bx bz; try clear bI bJ bK bL bM bN bO bP; try clear bY bZ b0 b1 b2 b3 b4 b5; try clear cj ck cl cm cn co cp cq; try clear cA cB cC cD cE cF cG cH; try clear dc dd de df dg dh di dj; try clear dt du dv dw dx dy dz dA; try clear dP dQ dR dS dT dU dV dW; try clear aT aU aV aW aX aY aZ a0; try clear a9 ba bb bc bd be bf bg
                    try clear hx285_0; try clear hx295_0; try clear hx299_0; try clear hx299_1; try clear p2; try clear p28; try clear p285; try clear p29; try clear p295; try clear p299; try clear p6; try clear q2; try clear q28; try clear q285; try clear q29; try clear q295; try clear q299
                    obtain ⟨eb, cK, rfl, HA, HK7, HO_3, aa, HB⟩ := hrel
                    cases gk with
                    | zero => exact absurd HA.out (by simp [r6_Subtags.l3])
                    | succ k7 =>
                     have H := HA.out
                     clear HA
                     simp only [r6_Subtags.l3] at H
                     by_cases c38 : 0 ≤ aw
                     ·rw [if_pos c38] at H
                      have fd : decide (0 ≤ aw) = true := decide_eq_true c38
                      clear c38
                      by_cases c39 : aw < (ac.length : Int)
                      ·rw [if_pos c39] at H
                       have fe : decide (aw < (ac.length : Int)) = true := decide_eq_true c39
                       clear c39
                       by_cases c40 : cK < (((rd_T62 ac aw).f1).length : Int)
                       ·rw [if_pos c40] at H
                        have e9 : decide (cK < (((rd_T62 ac aw).f1).length : Int)) = true := decide_eq_true c40
                        clear c40
                        by_cases c41 : 0 ≤ cK
                        ·rw [if_pos c41] at H
                         have ff : decide (0 ≤ cK) = true := decide_eq_true c41
                         clear c41
                         by_cases c42 : eb.length < 8796093022208
                         ·rw [if_pos c42] at H
                          have fO := Aside0.mk c42
                          clear c42
                          obtain ⟨fP, d6⟩ : ∃ y_ : List ByteArray, y_ = (eb ++ [rdOf ByteArray.empty ((rd_T62 ac aw).f1) cK]) := ⟨_, rfl⟩
                          replace H : (r6_Subtags.l3 k7 fP aw (wrap64 (cK + 1)) ai au aq ar av ac aj ak) = some r := by first | (rw [d6]; with_reducible exact H) | (have H2_ := (Option.bind_some _ _).symm.trans H; rw [d6]; with_reducible exact H2_) | (have H2_ := (Option.bind_some _ _).symm.trans H; with_reducible exact H2_) | with_reducible exact H | (rw [d6]; exact H) | exact H
                          have fQ := Aside0.mk d6
                          clear d6
                          have H' := Aside0.mk H
                          clear H
                          obtain ⟨eg, eh, ei, ej, ek, el, em, en, eo, ep, eq, er, es, et, eu, ev⟩ := c8_12 aa.out
                          have p303 : 0 ≤ (aw : Int) := of_decide_eq_true Qa
                          have q303 : aw < (ac.length : Int) := of_decide_eq_true Qa
                          obtain ⟨ad303, fk, fl, e303, hx303_0, hx303_1, hl303_1, hi303_1⟩ := at_T62 ec.out aw p303 q303
                          obtain rfl : ad299 = ad303 := (by injection e303)
                          replace hx303_0 := (HB.out.cell (World.block_lt_of_cell? w _ hx303_0)).trans hx303_0
                          replace hx303_1 := (HB.out.cell (World.block_lt_of_cell? w _ hx303_1)).trans hx303_1
                          have fa := Aside0.mk hi303_1
                          have fb := Aside0.mk hl303_1
                          clear hi303_1 hl303_1
                          replace p303 := eq_true p303
                          replace q303 := eq_true q303
                          have p304 : 0 ≤ (aw : Int) := of_decide_eq_true Qa
                          have q304 : aw < (ac.length : Int) := of_decide_eq_true Qa
                          obtain ⟨ad304, g1, g2, e304, hx304_0, hx304_1, hl304_1, hi304_1⟩ := at_T62 ec.out aw p304 q304
                          obtain rfl : ad299 = ad304 := (by injection e304)
                          replace hx304_0 := (HB.out.cell (World.block_lt_of_cell? w _ hx304_0)).trans hx304_0
                          replace hx304_1 := (HB.out.cell (World.block_lt_of_cell? w _ hx304_1)).trans hx304_1
                          have fc := Aside0.mk hi304_1
                          have f7 := Aside0.mk hl304_1
                          clear hi304_1 hl304_1
                          replace p304 := eq_true p304
                          replace q304 := eq_true q304
                          have ea_ := Option.some.inj (hx303_1.symm.trans hx304_1)
                          injection ea_ with ea_ en_ ec_
                          subst ea_
                          subst ec_
                          clear en_
                          have p305 : 0 ≤ (cK : Int) := of_decide_eq_true Qa
                          have q305 : cK < (((rd_T62 ac aw).f1).length : Int) := of_decide_eq_true Qa
                          obtain ⟨ad305, e305, hx305_0⟩ := Kd.at_string fc.out cK p305 q305
                          cases e305
                          replace hx305_0 := (HB.out.cell (World.block_lt_of_cell? w _ hx305_0)).trans hx305_0
                          replace p305 := eq_true p305
                          replace q305 := eq_true q305
                          go_wp2_with (first | ((with_reducible refine gate_builtin (b := .append) (xs := #[.tmp 96, .tmp 106]) rfl ?_); at_builtin; refine Kd.R_append Kd.string (w0 := w) w.heap.size rfl (.tmp 96) (.tmp 106) 25 9 (.string ⟨#[]⟩) 16 rfl Try.underlying25 info9 rfl (by decide) (by omega) u3 eb (rdOf ByteArray.empty ((rd_T62 ac aw).f1) cK) [.string (rdOf ByteArray.empty ((rd_T62 ac aw).f1) cK)] (fun _ => True) (fun _ => False) rfl rfl ?aP (fun _ hk => hk.elim) ?aF ?aO ?aB ?aS ?aL ?_; (case aP => exact rfl); (case aB => exact (Qv HB.out al.out)); (case aF => exact (fun _ _ => trivial)); (case aO => exact (Qr HO_3.out)); (case aS => exact (wZ_ (Qv HB.out al.out))); (case aL => have := fO.out; omega); intro v307 w44 ho hb hg hat; rw [← fQ.out] at ho; have b7 := Aside0.mk (blk_grown (g := ap) (o := .cells #[.string ai, .slice aC au.length ax, .string aq, .string ar, .slice aD av.length ay, .slice (some ad299) ac.length az, .slice aE aj.length aA, .string ak] 34 (0, 0)) (Qb aa.out) hg (Kd.R_ne HO_3.out aa.out (by decide))); have b8 := Aside0.mk (hb); have b9 := Aside0.mk (ho); clear aa; clear HB; clear HO_3; have aa := b7; have HB := b8; have fR := b9; clear b7 b8 b9; clear ho hb hg hat))
                          go_roundg k7
                          case measure => have := HJ2.out; have := HK2.out; have := HJ14.out; have := HJ20.out; have := HK5.out; have := HK6.out; have := HK7.out; omega
                          case rel => exact ⟨(fP), (wrap64 (cK + 1)), Qs, H', ⟨by have := HJ2.out; have := HK2.out; have := HJ14.out; have := HJ20.out; have := HK5.out; have := HK6.out; have := HK7.out; omega⟩, ⟨Qr fR.out⟩, ⟨Qb aa.out⟩, ⟨Qv HB.out al.out⟩⟩
                         ·rw [if_neg c42] at H
                          exact absurd H (by simp)
                        ·rw [if_neg c41] at H
                         exact absurd H (by simp)
                       ·rw [if_neg c40] at H
                        have e9 : decide (cK < (((rd_T62 ac aw).f1).length : Int)) = false := decide_eq_false c40
                        clear c40
                        have H' := Aside0.mk H
                        clear H
                        obtain ⟨ew, ex, ey, ez, eA, eB, eC, eD, eE, eF, eG, eH, eI, eJ, eK, eL⟩ := c8_12 aa.out
                        have p303 : 0 ≤ (aw : Int) := of_decide_eq_true Qa
                        have q303 : aw < (ac.length : Int) := of_decide_eq_true Qa
                        obtain ⟨ad303, fk, fl, e303, hx303_0, hx303_1, hl303_1, hi303_1⟩ := at_T62 ec.out aw p303 q303
                        obtain rfl : ad299 = ad303 := (by injection e303)
                        replace hx303_0 := (HB.out.cell (World.block_lt_of_cell? w _ hx303_0)).trans hx303_0
                        replace hx303_1 := (HB.out.cell (World.block_lt_of_cell? w _ hx303_1)).trans hx303_1
                        have fa := Aside0.mk hi303_1
                        have fb := Aside0.mk hl303_1
                        clear hi303_1 hl303_1
                        replace p303 := eq_true p303
                        replace q303 := eq_true q303
                        go_wp2
                        go_roundg k7
                        case measure => have := HJ2.out; have := HK2.out; have := HJ14.out; have := HJ20.out; have := HK5.out; have := HK6.out; have := HK7.out; omega
                        case rel => exact ⟨(eb), (wrap64 (aw + 1)), Qs, H', ⟨by have := HJ2.out; have := HK2.out; have := HJ14.out; have := HJ20.out; have := HK5.out; have := HK6.out; have := HK7.out; omega⟩, ⟨Qr HO_3.out⟩, ⟨Qb aa.out⟩, ⟨Qv HB.out al.out⟩⟩
                      ·rw [if_neg c39] at H
                       exact absurd H (by simp)
                     ·rw [if_neg c38] at H
                      exact absurd H (by simp)
                  ·rw [if_neg c35] at H
                   exact absurd H (by simp)
                 ·rw [if_neg c34] at H
                  exact absurd H (by simp)
                ·rw [if_neg c33] at H
                 have ef : decide (aw < (ac.length : Int)) = false := decide_eq_false c33
                 clear c33
                 have fm := Aside0.mk H
                 clear H
                 obtain ⟨eM, eN, eO, eP, eQ, eR, eS, eT, eU, eV, eW, eX, eY, eZ, e0, e1⟩ := c8_12 aa.out
                 go_upto_if 111 with (fail)
                 go_cut [3] (fun v3 wc => ∃ (kq : Nat) (e2 : List ByteArray), Aside0 (r6_Subtags.j7 kq e2 ai au aq ar av ac aj ak = some r) ∧ Aside0 (kq ≤ k6) ∧ Aside0 (Kd.R Kd.string 9 wc w.heap.size (fun _ => True) v3 e2) ∧ Aside0 (wc.heap[ap]? = some (.cells #[.string ai, (.slice aC au.length ax), .string aq, .string ar, (.slice aD av.length ay), (.slice aG ac.length az), (.slice aE aj.length aA), .string ak] 34 (0, 0))) ∧ Aside0 (Below w.heap.size w wc))
                 case first =>
                  have H := fm.out
                  clear fm
                  by_cases c48 : (aj.length : Int) > 0
                  ·rw [if_pos c48] at H
                   have dD : decide (0 < (aj.length : Int)) = true := decide_eq_true c48
                   have d7 : decide (0 < aj.length) = true := decide_eq_true (by omega)
                   clear c48
                   (first | rw [dD] | rw [d7] | (simp only [i64_w, i32_w]; rw [dD]) | skip)
                   by_cases c49 : dG.length < 8796093022208
                   ·rw [if_pos c49] at H
                    have fS := Aside0.mk c49
                    clear c49
                    obtain ⟨fT, d8⟩ : ∃ y_ : List ByteArray, y_ = (dG ++ [(⟨#[120]⟩ : ByteArray)]) := ⟨_, rfl⟩
                    replace H : (r6_Subtags.j7 k6 fT ai au aq ar av ac aj ak) = some r := by first | (rw [d8]; with_reducible exact H) | (have H2_ := (Option.bind_some _ _).symm.trans H; rw [d8]; with_reducible exact H2_) | (have H2_ := (Option.bind_some _ _).symm.trans H; with_reducible exact H2_) | with_reducible exact H | (rw [d8]; exact H) | exact H
                    have fU := Aside0.mk d8
                    clear d8
                    have H' := Aside0.mk H
                    clear H
                    go_wp2_with (first | ((with_reducible refine gate_builtin (b := .append) (xs := #[.tmp 112, .tmp 113]) rfl ?_); at_builtin; refine Kd.R_append Kd.string (w0 := w) w.heap.size rfl (.tmp 112) (.tmp 113) 25 9 (.string ⟨#[]⟩) 16 rfl Try.underlying25 info9 rfl (by decide) (by omega) u3 dG (⟨#[120]⟩ : ByteArray) [.string (⟨#[120]⟩ : ByteArray)] (fun _ => True) (fun _ => False) rfl rfl ?aP (fun _ hk => hk.elim) ?aF ?aO ?aB ?aS ?aL ?_; (case aP => exact rfl); (case aB => exact (Qv HB.out al.out)); (case aF => exact (fun _ _ => trivial)); (case aO => exact (Qr HO_3.out)); (case aS => exact (wZ_ (Qv HB.out al.out))); (case aL => have := fS.out; omega); intro v310 w50 ho hb hg hat; rw [← fU.out] at ho; have b7 := Aside0.mk (blk_grown (g := ap) (o := .cells #[.string ai, .slice aC au.length ax, .string aq, .string ar, .slice aD av.length ay, .slice aG ac.length az, .slice aE aj.length aA, .string ak] 34 (0, 0)) (Qb aa.out) hg (Kd.R_ne HO_3.out aa.out (by decide))); have b8 := Aside0.mk (hb); have b9 := Aside0.mk (ho); clear aa; clear HB; clear HO_3; have aa := b7; have HB := b8; have fV := b9; clear b7 b8 b9; clear ho hb hg hat))
                    go_meet
                    case rel => exact ⟨_, (fT), H', ⟨by have := HJ2.out; have := HK2.out; have := HJ14.out; have := HJ20.out; have := HK5.out; have := HK6.out; first | omega | exact Nat.le_refl _⟩, ⟨Qr fV.out⟩, ⟨Qb aa.out⟩, ⟨Qv HB.out al.out⟩⟩
                   ·rw [if_neg c49] at H
                    exact absurd H (by simp)
                  ·rw [if_neg c48] at H
                   have dD : decide (0 < (aj.length : Int)) = false := decide_eq_false c48
                   have d7 : decide (0 < aj.length) = false := decide_eq_false (by omega)
                   clear c48
                   (first | rw [dD] | rw [d7] | (simp only [i64_w, i32_w]; rw [dD]) | skip)
                   have H' := Aside0.mk H
                   clear H
                   go_wp2
                   go_meet
                   case rel => exact ⟨_, (dG), H', ⟨by have := HJ2.out; have := HK2.out; have := HJ14.out; have := HJ20.out; have := HK5.out; have := HK6.out; first | omega | exact Nat.le_refl _⟩, ⟨Qr HO_3.out⟩, ⟨Qb aa.out⟩, ⟨Qv HB.out al.out⟩⟩
                 case rest =>
                  clear fm
                  try clear c1; try clear c2; try clear dE; try clear dF; try clear p2; try clear q2; try clear hx2; try clear c3; try clear p3; try clear q3; try clear hx3; try clear c4; try clear c6; try clear cP; try clear cU; try clear p6; try clear c7; try clear c10; try clear cS; try clear c11; try clear dB; try clear c12; try clear c17; try clear b6; try clear cN; try clear c18; try clear c22; try clear c23; try clear ca; try clear cQ; try clear c24; try clear c27; try clear d3; try clear c28; try clear ee; try clear p28; try clear q28; try clear hx28; try clear c29; try clear p29; try clear q29; try clear hx29; try clear c30; try clear p30; try clear q30; try clear hx30; try clear c33; try clear ef; try clear c34; try clear e8; try clear c35; try clear c38; try clear fd; try clear c39; try clear fe; try clear c40; try clear e9; try clear c41; try clear ff; try clear c42; try clear c48; try clear dD; try clear d7; try clear c49
                  try clear bh bi bj bk bm bn bo bp; try clear bA bB bC bD bE bF bG bH; try clear bQ bR bS bT bU bV bW bX; try clear cb cc cd ce cf cg ch ci; try clear cr ct cu cv cw cx cy cz; try clear cV cW cX cY cZ c0 da db; try clear dk dl dm dn dp dq dr ds; try clear dH dI dJ dK dL dM dN dO; try clear eg eh ei ej ek el em en; try clear ew ex ey ez eA eB eC eD; try clear eM eN eO eP eQ eR eS eT; try clear aH aI aJ aK aM aN aQ aR; try clear a1 a2 a3 a4 a5 a6 a7 a8; try clear bq br bs bu bv bw bx bz; try clear bI bJ bK bL bM bN bO bP; try clear bY bZ b0 b1 b2 b3 b4 b5; try clear cj ck cl cm cn co cp cq; try clear cA cB cC cD cE cF cG cH; try clear dc dd de df dg dh di dj; try clear dt du dv dw dx dy dz dA; try clear dP dQ dR dS dT dU dV dW; try clear eo ep eq er es et eu ev; try clear eE eF eG eH eI eJ eK eL; try clear eU eV eW eX eY eZ e0 e1; try clear aT aU aV aW aX aY aZ a0; try clear a9 ba bb bc bd be bf bg
                  try clear hx285_0; try clear hx295_0; try clear hx299_0; try clear hx299_1; try clear hx303_0; try clear hx303_1; try clear hx304_0; try clear hx304_1; try clear hx305_0; try clear p2; try clear p28; try clear p285; try clear p29; try clear p295; try clear p299; try clear p303; try clear p304; try clear p305; try clear p6; try clear q2; try clear q28; try clear q285; try clear q29; try clear q295; try clear q299; try clear q303; try clear q304; try clear q305
                  obtain ⟨kq, e2, HA, HJ45, HO_3, aa, HB⟩ := hcut
                  cases kq with
                  | zero => exact absurd HA.out (by simp [r6_Subtags.j7])
                  | succ kj45 =>
                   have H := HA.out
                   clear HA
                   simp only [r6_Subtags.j7] at H
                   have H' := Aside0.mk H
                   clear H
                   go_wp2
                   go_loopg [3, 8] kj45 (fun kq v3 v8 w' => ∃ (e4 : List ByteArray) (cM : Int), v8 = .int .i64 cM ∧ Aside0 (r6_Subtags.l4 kq e4 cM ai au aq ar av ac aj ak = some r) ∧ Aside0 (kq ≤ kj45) ∧ Aside0 (Kd.R Kd.string 9 w' w.heap.size (fun _ => True) v3 e4) ∧ Aside0 (w'.heap[ap]? = some (.cells #[.string ai, (.slice aC au.length ax), .string aq, .string ar, (.slice aD av.length ay), (.slice aG ac.length az), (.slice aE aj.length aA), .string ak] 34 (0, 0))) ∧ Aside0 (Below w.heap.size w w'))
                   case atStart => exact ⟨(e2), (0), Qs, H', ⟨Nat.le_refl _⟩, ⟨Qr HO_3.out⟩, ⟨Qb aa.out⟩, ⟨Qv HB.out al.out⟩⟩
                   case round =>
                    clear H'
                    try clear c1; try clear c2; try clear dE; try clear dF; try clear p2; try clear q2; try clear hx2; try clear c3; try clear p3; try clear q3; try clear hx3; try clear c4; try clear c6; try clear cP; try clear cU; try clear p6; try clear c7; try clear c10; try clear cS; try clear c11; try clear dB; try clear c12; try clear c17; try clear b6; try clear cN; try clear c18; try clear c22; try clear c23; try clear ca; try clear cQ; try clear c24; try clear c27; try clear d3; try clear c28; try clear ee; try clear p28; try clear q28; try clear hx28; try clear c29; try clear p29; try clear q29; try clear hx29; try clear c30; try clear p30; try clear q30; try clear hx30; try clear c33; try clear ef; try clear c34; try clear e8; try clear c35; try clear c38; try clear fd; try clear c39; try clear fe; try clear c40; try clear e9; try clear c41; try clear ff; try clear c42; try clear c48; try clear dD; try clear d7; try clear c49
                    try clear bh bi bj bk bm bn bo bp; try clear bA bB bC bD bE bF bG bH; try clear bQ bR bS bT bU bV bW bX; try clear cb cc cd ce cf cg ch ci; try clear cr ct cu cv cw cx cy cz; try clear cV cW cX cY cZ c0 da db; try clear dk dl dm dn dp dq dr ds; try clear dH dI dJ dK dL dM dN dO; try clear eg eh ei ej ek el em en; try clear ew ex ey ez eA eB eC eD; try clear eM eN eO eP eQ eR eS eT; try clear aH aI aJ aK aM aN aQ aR; try clear a1 a2 a3 a4 a5 a6 a7 a8; try clear bq br bs bu bv bw bx bz; try clear bI bJ bK bL bM bN bO bP; try clear bY bZ b0 b1 b2 b3 b4 b5; try clear cj ck cl cm cn co cp cq; try clear cA cB cC cD cE cF cG cH; try clear dc dd de df dg dh di dj; try clear dt du dv dw dx dy dz dA; try clear dP dQ dR dS dT dU dV dW; try clear eo ep eq er es et eu ev; try clear eE eF eG eH eI eJ eK eL; try clear eU eV eW eX eY eZ e0 e1; try clear aT aU aV aW aX aY aZ a0; try clear a9 ba bb bc bd be bf bg
                    try clear hx285_0; try clear hx295_0; try clear hx299_0; try clear hx299_1; try clear hx303_0; try clear hx303_1; try clear hx304_0; try clear hx304_1; try clear hx305_0; try clear p2; try clear p28; try clear p285; try clear p29; try clear p295; try clear p299; try clear p3; try clear p30; try clear p303; try clear p304; try clear p305; try clear p6; try clear q2; try clear q28; try clear q285; try clear q29; try clear q295; try clear q299; try clear q3; try clear q30; try clear q303; try clear q304; try clear q305
                    obtain ⟨e4, cM, rfl, HA, HK8, HO_3, aa, HB⟩ := hrel
                    cases gk with
                    | zero => exact absurd HA.out (by simp [r6_Subtags.l4])
                    | succ k8 =>
                     have H := HA.out
                     clear HA
                     simp only [r6_Subtags.l4] at H
                     by_cases c51 : cM < (aj.length : Int)
                     ·rw [if_pos c51] at H
                      have fW : decide (cM < (aj.length : Int)) = true := decide_eq_true c51
                      clear c51
                      by_cases c52 : 0 ≤ cM
                      ·rw [if_pos c52] at H
                       have g7 : decide (0 ≤ cM) = true := decide_eq_true c52
                       clear c52
                       by_cases c53 : e4.length < 8796093022208
                       ·rw [if_pos c53] at H
                        have fX := Aside0.mk c53
                        clear c53
                        obtain ⟨fY, d9⟩ : ∃ y_ : List ByteArray, y_ = (e4 ++ [rdOf ByteArray.empty aj cM]) := ⟨_, rfl⟩
                        replace H : (r6_Subtags.l4 k8 fY (wrap64 (cM + 1)) ai au aq ar av ac aj ak) = some r := by first | (rw [d9]; with_reducible exact H) | (have H2_ := (Option.bind_some _ _).symm.trans H; rw [d9]; with_reducible exact H2_) | (have H2_ := (Option.bind_some _ _).symm.trans H; with_reducible exact H2_) | with_reducible exact H | (rw [d9]; exact H) | exact H
                        have fZ := Aside0.mk d9
                        clear d9
                        have H' := Aside0.mk H
                        clear H
                        obtain ⟨f8, f9, ga, gb, gc, ge, gf, gg, gh, gi, gj, gl, gm, gn, go, gp⟩ := c8_12 aa.out
                        have p312 : 0 ≤ (cM : Int) := of_decide_eq_true Qa
                        have q312 : cM < (aj.length : Int) := of_decide_eq_true Qa
                        obtain ⟨ad312, e312, hx312_0⟩ := Kd.at_string fp.out cM p312 q312
                        cases e312
                        replace hx312_0 := (HB.out.cell (World.block_lt_of_cell? w _ hx312_0)).trans hx312_0
                        replace p312 := eq_true p312
                        replace q312 := eq_true q312
                        go_wp2_with (first | ((with_reducible refine gate_builtin (b := .append) (xs := #[.tmp 122, .tmp 128]) rfl ?_); at_builtin; refine Kd.R_append Kd.string (w0 := w) w.heap.size rfl (.tmp 122) (.tmp 128) 25 9 (.string ⟨#[]⟩) 16 rfl Try.underlying25 info9 rfl (by decide) (by omega) u3 e4 (rdOf ByteArray.empty aj cM) [.string (rdOf ByteArray.empty aj cM)] (fun _ => True) (fun _ => False) rfl rfl ?aP (fun _ hk => hk.elim) ?aF ?aO ?aB ?aS ?aL ?_; (case aP => exact rfl); (case aB => exact (Qv HB.out al.out)); (case aF => exact (fun _ _ => trivial)); (case aO => exact (Qr HO_3.out)); (case aS => exact (wZ_ (Qv HB.out al.out))); (case aL => have := fX.out; omega); intro v314 w55 ho hb hg hat; rw [← fZ.out] at ho; have b7 := Aside0.mk (blk_grown (g := ap) (o := .cells #[.string ai, .slice aC au.length ax, .string aq, .string ar, .slice aD av.length ay, .slice aG ac.length az, .slice (some ad312) aj.length aA, .string ak] 34 (0, 0)) (Qb aa.out) hg (Kd.R_ne HO_3.out aa.out (by decide))); have b8 := Aside0.mk (hb); have b9 := Aside0.mk (ho); clear aa; clear HB; clear HO_3; have aa := b7; have HB := b8; have f2 := b9; clear b7 b8 b9; clear ho hb hg hat))
                        go_roundg k8
                        case measure => have := HJ2.out; have := HK2.out; have := HJ14.out; have := HJ20.out; have := HK5.out; have := HK6.out; have := HJ45.out; have := HK8.out; omega
                        case rel => exact ⟨(fY), (wrap64 (cM + 1)), Qs, H', ⟨by have := HJ2.out; have := HK2.out; have := HJ14.out; have := HJ20.out; have := HK5.out; have := HK6.out; have := HJ45.out; have := HK8.out; omega⟩, ⟨Qr f2.out⟩, ⟨Qb aa.out⟩, ⟨Qv HB.out al.out⟩⟩
                       ·rw [if_neg c53] at H
                        exact absurd H (by simp)
                      ·rw [if_neg c52] at H
                       exact absurd H (by simp)
                     ·rw [if_neg c51] at H
                      have fW : decide (cM < (aj.length : Int)) = false := decide_eq_false c51
                      clear c51
                      obtain rfl := Option.some.inj H
                      obtain ⟨gq, gr, gs, gt, gu, gv, gw, gx, gy, gz, gA, gB, gC, gD, gE, gF⟩ := c8_12 aa.out
                      go_wp2
                      go_ret
                      exact ⟨_, Qe, Qr HO_3.out, Qv HB.out al.out⟩
 ·rw [if_neg c2] at H
  have dE : (ak.toList == ([] : List UInt8)) = false := beq_eq_false_iff_ne.mpr c2
  have fg : ak.toList.isEmpty = false := List.isEmpty_eq_false_iff.2 c2
  have gW : (!ak.toList.isEmpty) = true := by rw [fg]; rfl
  have dF : (ak.toList != ([] : List UInt8)) = true := bne_iff_ne.mpr c2
  replace H := Option.bind_eq_some_iff.mp H
  obtain ⟨e3, f3, H⟩ := H
  replace H : (some e3) = some r := H
  have g8 := Aside0.mk f3
  clear f3
  obtain rfl := Option.some.inj H
  go_enter Try.func22, Try.ntmps22
  go_wp2_with (first | ((with_reducible refine gate_dst (N := 1) rfl ?_); refine box_event ?hg (N := 1) ?hd (cs := #[.string ai, .slice aC au.length ax, .string aq, .string ar, .slice aD av.length ay, .slice aG ac.length az, .slice aE aj.length aA, .string ak]) (t := 34) ?hr ?_; (case hd => rfl); (case hg => rfl); (case hr => first | (go_simp; done) | (go_simp; rfl)); intro ap hg w58 hbox hb; have b7 := Aside0.mk (below_step (Qw HB.out) hb); have b8 := Aside0.mk (hbox); have b9 := Aside0.mk ((by rw [hg]; exact (wZ_ (Qw HB.out)) : w.heap.size ≤ ap)); have fq := Aside0.mk ((by rw [hg]; exact (wZ_ (Qw HB.out)) : w.heap.size ≤ ap)); clear HB; have HB := b7; have aa := b8; have GW278 := b9; have al := fq; clear b7 b8 b9 fq; clear hb hbox hg; have gG : w58.cell? ⟨ap, 0, none⟩ = some (.string ai) := (bC_ aa.out 0).trans rfl; have gH : w58.cell? ⟨ap, 1, none⟩ = some (.slice aC au.length ax) := (bC_ aa.out 1).trans rfl; have gI : w58.cell? ⟨ap, 2, none⟩ = some (.string aq) := (bC_ aa.out 2).trans rfl; have gJ : w58.cell? ⟨ap, 3, none⟩ = some (.string ar) := (bC_ aa.out 3).trans rfl; have gK : w58.cell? ⟨ap, 4, none⟩ = some (.slice aD av.length ay) := (bC_ aa.out 4).trans rfl; have gL : w58.cell? ⟨ap, 5, none⟩ = some (.slice aG ac.length az) := (bC_ aa.out 5).trans rfl; have gM : w58.cell? ⟨ap, 6, none⟩ = some (.slice aE aj.length aA) := (bC_ aa.out 6).trans rfl; have gN : w58.cell? ⟨ap, 7, none⟩ = some (.string ak) := (bC_ aa.out 7).trans rfl; have gO := bF_ aa.out 0; have gP := bF_ aa.out 1; have gQ := bF_ aa.out 2; have gR := bF_ aa.out 3; have gS := bF_ aa.out 4; have gT := bF_ aa.out 5; have gU := bF_ aa.out 6; have gV := bF_ aa.out 7) | ((with_reducible refine gate_callee (f := 14) rfl ?_); refine goesL_ (some 14) rfl rfl Try.func14 (by kernel_rfl) rfl #[.string ak] rfl Qm ?_; (with_reducible refine (r4_Split.calls k ak e3 _ g8.out).mono ?_); rintro e w60 ⟨v280, rfl, ho0, hb⟩; refine ⟨_, rfl, ?_⟩; have b7 := Aside0.mk (Kd.R_lower ho0 (wZ_ (Qv HB.out al.out))); have b8 := Aside0.mk (blk_below (g := ap) (o := .cells #[.string ai, .slice aC au.length ax, .string aq, .string ar, .slice aD av.length ay, .slice aG ac.length az, .slice aE aj.length aA, .string ak] 34 (0, 0)) (Qb aa.out) hb); have b9 := Aside0.mk (below_step (Qv HB.out al.out) hb); clear aa; clear HB; have f4 := b7; have aa := b8; have HB := b9; clear b7 b8 b9; (try clear hb); (try clear hb2); (try clear hk); (try clear hi); (try clear ho0)))
  go_ret
  exact ⟨_, Qe, Qr f4.out, Qv HB.out al.out⟩
end Go.Proofs.Ytojglflamecnkaa.P
