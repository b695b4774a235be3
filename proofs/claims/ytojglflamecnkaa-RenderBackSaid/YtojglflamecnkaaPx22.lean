-- Written for this claim by the session's own run of the print, functions proved by hand put in.
import Derived.Test.YtojglflamecnkaaSq
import Derived.Test.YtojglflamecnkaaPx0
import Derived.Test.YtojglflamecnkaaPx19
namespace Go.Proofs.Ytojglflamecnkaa.P
open Go.RowKit Go.Proofs.YtojglflamecnkaaW.PrintWords Go.Proofs.YtojglflamecnkaaW.PrintLast Go.Proofs.YtojglflamecnkaaW.PrintMore
open Go.Proofs.YtojglflamecnkaaW.PrintWords renaming blk_alloc → bA_, blk_drewN → bN_, blk_drew → bD_, blk_frozen → bF_, blk_cell → bC_, below_alloc → wA_, pw_below_drewN → wN_, below_drew1 → wD_, below_set → wS_, below_size → wZ_, below_step → wT_
open Go.Proofs.YtojglflamecnkaaW.PrintWords.Kd renaming C_alloc → cA_, C_drewN → cN_, C_drew → cD_, C_below → cB_
theorem c8_22 {w : World} {g : Nat} {t : TypeId} {x0 x1 x2 x3 x4 x5 x6 x7 : Value} (h : w.heap[g]? = some (.cells #[x0, x1, x2, x3, x4, x5, x6, x7] t (0, 0))) : w.cell? ⟨g, 0, none⟩ = some x0 ∧ w.cell? ⟨g, 1, none⟩ = some x1 ∧ w.cell? ⟨g, 2, none⟩ = some x2 ∧ w.cell? ⟨g, 3, none⟩ = some x3 ∧ w.cell? ⟨g, 4, none⟩ = some x4 ∧ w.cell? ⟨g, 5, none⟩ = some x5 ∧ w.cell? ⟨g, 6, none⟩ = some x6 ∧ w.cell? ⟨g, 7, none⟩ = some x7 ∧ w.frozen? ⟨g, 0, none⟩ = false ∧ w.frozen? ⟨g, 1, none⟩ = false ∧ w.frozen? ⟨g, 2, none⟩ = false ∧ w.frozen? ⟨g, 3, none⟩ = false ∧ w.frozen? ⟨g, 4, none⟩ = false ∧ w.frozen? ⟨g, 5, none⟩ = false ∧ w.frozen? ⟨g, 6, none⟩ = false ∧ w.frozen? ⟨g, 7, none⟩ = false :=
  ⟨(bC_ h 0).trans rfl, (bC_ h 1).trans rfl, (bC_ h 2).trans rfl, (bC_ h 3).trans rfl, (bC_ h 4).trans rfl, (bC_ h 5).trans rfl, (bC_ h 6).trans rfl, (bC_ h 7).trans rfl, bF_ h 0, bF_ h 1, bF_ h 2, bF_ h 3, bF_ h 4, bF_ h 5, bF_ h 6, bF_ h 7⟩
attribute [local go_sem] max2_int min2_int max_two min_two max_three min_three max_four min_four   -- for this text's walks alone
set_option linter.unusedVariables false
set_option linter.unusedSimpArgs false
def r4_Same.l0 : Nat → List ByteArray → List ByteArray → Int → Option (Bool)
 | 0, _, _, _ => none
 | k + 1, x0, x1, x5 => if x5 < (x0.length : Int) then (if 0 ≤ x5 then (if x5 < (x1.length : Int) then (if (rdOf ByteArray.empty x0 x5).toList = (rdOf ByteArray.empty x1 x5).toList then (r4_Same.l0 k x0 x1 (wrap64 (x5 + 1))) else (some false)) else (none)) else (none)) else (some true)
def r4_Same.f (k : Nat) (l0 : List ByteArray) (l1 : List ByteArray) : Option (Bool) := if (l0.length : Int) = (l1.length : Int) then (r4_Same.l0 k l0 l1 0) else (some false)
set_option maxHeartbeats 8000000 in
set_option maxRecDepth 100000 in
theorem r4_Same.calls (k : Nat) (A0 : Option Addr) (c0 : Nat) (l0 : List ByteArray) (A1 : Option Addr) (c1 : Nat) (l1 : List ByteArray) (r : Bool) (w : World) (hr0 : Kd.C Kd.string w A0 l0.length l0) (hc0 : l0.length ≤ c0) (hr1 : Kd.C Kd.string w A1 l1.length l1) (hc1 : l1.length ≤ c1) (h : r4_Same.f k l0 l1 = some r) :
  Calls Try.prog 56 #[.slice A0 l0.length c0, .slice A1 l1.length c1] w fun e w' => e = .returned (.bool r) ∧ Drawn0 w w' := by
 have hn := Aside0.mk hr0
 have hC := Aside0.mk hc0
 clear hr0 hc0
 have ho := Aside0.mk hr1
 have hD := Aside0.mk hc1
 clear hr1 hc1
 have H : (if (l0.length : Int) = (l1.length : Int) then (r4_Same.l0 k l0 l1 0) else (some false)) = some r := h
 clear h
 by_cases c3 : (l0.length : Int) = (l1.length : Int)
 ·rw [if_pos c3] at H
  have e1 : ((l0.length : Int) == (l1.length : Int)) = true := beq_iff_eq.mpr c3
  have e2 : ((l0.length : Int) != (l1.length : Int)) = false := bne_eq_false_iff_eq.mpr c3
  have e3 : (l0.length == l1.length) = true := by first | simpa using c3 | (simp at c3 ⊢; omega)
  clear c3
  have H' := Aside0.mk H
  clear H
  go_enter Try.func56, Try.ntmps56
  go_wp2
  repeat (go_quiet (fail); try go_wp2)
  go_loopg [5] k (fun kq v5 w' => ∃ (aw : Int), v5 = .int .i64 aw ∧ Aside0 (r4_Same.l0 kq l0 l1 aw = some r) ∧ Aside0 (kq ≤ k) ∧ Drawn0 w w')
  case atStart => exact ⟨(0), Qs, H', ⟨Nat.le_refl _⟩, Q0⟩
  case round =>
   clear H'
   try clear c1; try clear p2; try clear c3; try clear e1; try clear e2; try clear e3
   obtain ⟨aw, rfl, HA, HK1, ⟨m1, rfl⟩⟩ := hrel
   cases gk with
   | zero => exact absurd HA.out (by simp [r4_Same.l0])
   | succ k1 =>
    have H := HA.out
    clear HA
    simp only [r4_Same.l0] at H
    by_cases c4 : aw < (l0.length : Int)
    ·rw [if_pos c4] at H
     have hj : decide (aw < (l0.length : Int)) = true := decide_eq_true c4
     clear c4
     by_cases c5 : 0 ≤ aw
     ·rw [if_pos c5] at H
      have hA : decide (0 ≤ aw) = true := decide_eq_true c5
      clear c5
      by_cases c6 : aw < (l1.length : Int)
      ·rw [if_pos c6] at H
       have hB : decide (aw < (l1.length : Int)) = true := decide_eq_true c6
       clear c6
       by_cases c7 : (rdOf ByteArray.empty l0 aw).toList = (rdOf ByteArray.empty l1 aw).toList
       ·rw [if_pos c7] at H
        have hk : ((rdOf ByteArray.empty l0 aw).toList == (rdOf ByteArray.empty l1 aw).toList) = true := beq_iff_eq.mpr c7
        have hl : ((rdOf ByteArray.empty l0 aw).toList != (rdOf ByteArray.empty l1 aw).toList) = false := bne_eq_false_iff_eq.mpr c7
        clear c7
        have H' := Aside0.mk H
        clear H
        have p635 : 0 ≤ (aw : Int) := of_decide_eq_true Qa
        have q635 : aw < (l0.length : Int) := of_decide_eq_true Qa
        obtain ⟨ad635, e635, hx635_0⟩ := Kd.at_string hn.out aw p635 q635
        cases e635
        replace p635 := eq_true p635
        replace q635 := eq_true q635
        have p636 : 0 ≤ (aw : Int) := of_decide_eq_true Qa
        have q636 : aw < (l1.length : Int) := of_decide_eq_true Qa
        obtain ⟨ad636, e636, hx636_0⟩ := Kd.at_string ho.out aw p636 q636
        cases e636
        replace p636 := eq_true p636
        replace q636 := eq_true q636
        go_wp2
        repeat (go_quiet (fail); try go_wp2)
        go_roundg k1
        case measure => have := HK1.out; omega
        case rel => exact ⟨(wrap64 (aw + 1)), Qs, H', ⟨by have := HK1.out; omega⟩, Q0⟩
       ·rw [if_neg c7] at H
        have hk : ((rdOf ByteArray.empty l0 aw).toList == (rdOf ByteArray.empty l1 aw).toList) = false := beq_eq_false_iff_ne.mpr c7
        have hl : ((rdOf ByteArray.empty l0 aw).toList != (rdOf ByteArray.empty l1 aw).toList) = true := bne_iff_ne.mpr c7
        obtain rfl := Option.some.inj H
        have p635 : 0 ≤ (aw : Int) := of_decide_eq_true Qa
        have q635 : aw < (l0.length : Int) := of_decide_eq_true Qa
        obtain ⟨ad635, e635, hx635_0⟩ := Kd.at_string hn.out aw p635 q635
        cases e635
        replace p635 := eq_true p635
        replace q635 := eq_true q635
        have p636 : 0 ≤ (aw : Int) := of_decide_eq_true Qa
        have q636 : aw < (l1.length : Int) := of_decide_eq_true Qa
        obtain ⟨ad636, e636, hx636_0⟩ := Kd.at_string ho.out aw p636 q636
        cases e636
        replace p636 := eq_true p636
        replace q636 := eq_true q636
        go_wp2
        repeat (go_quiet (fail); try go_wp2)
        go_ret
        exact ⟨Qs, Q0⟩
      ·rw [if_neg c6] at H
       exact absurd H (by simp)
     ·rw [if_neg c5] at H
      exact absurd H (by simp)
    ·rw [if_neg c4] at H
     have hj : decide (aw < (l0.length : Int)) = false := decide_eq_false c4
     clear c4
     obtain rfl := Option.some.inj H
     go_wp2
     repeat (go_quiet (fail); try go_wp2)
     go_ret
     exact ⟨Qs, Q0⟩
 ·rw [if_neg c3] at H
  have e1 : ((l0.length : Int) == (l1.length : Int)) = false := beq_eq_false_iff_ne.mpr c3
  have e2 : ((l0.length : Int) != (l1.length : Int)) = true := bne_iff_ne.mpr c3
  have e3 : (l0.length == l1.length) = false := by first | simpa using c3 | (simp at c3 ⊢; omega)
  obtain rfl := Option.some.inj H
  go_enter Try.func56, Try.ntmps56
  go_wp2
  repeat (go_quiet (fail); try go_wp2)
  go_ret
  exact ⟨Qs, Q0⟩
mutual
def r6_Same.j0 : Nat → Bool → ByteArray → List ByteArray → ByteArray → ByteArray → List ByteArray → List (S62) → List ByteArray → ByteArray → ByteArray → List ByteArray → ByteArray → ByteArray → List ByteArray → List (S62) → List ByteArray → ByteArray → Option (Bool)
 | 0, _, _, _, _, _, _, _, _, _, _, _, _, _, _, _, _, _ => none
 | k + 1, x71, aU, aV, aW, aX, aY, aF, aZ, a0, a1, a2, a3, a4, a5, aG, a6, a7 => if x71 = true then (some false) else (r6_Same.l0 k 0 aU aV aW aX aY aF aZ a0 a1 a2 a3 a4 a5 aG a6 a7)
def r6_Same.l0 : Nat → Int → ByteArray → List ByteArray → ByteArray → ByteArray → List ByteArray → List (S62) → List ByteArray → ByteArray → ByteArray → List ByteArray → ByteArray → ByteArray → List ByteArray → List (S62) → List ByteArray → ByteArray → Option (Bool)
 | 0, _, _, _, _, _, _, _, _, _, _, _, _, _, _, _, _, _ => none
 | k + 1, x8, aU, aV, aW, aX, aY, aF, aZ, a0, a1, a2, a3, a4, a5, aG, a6, a7 => if x8 < (aF.length : Int) then (if 0 ≤ x8 then (if x8 < (aG.length : Int) then ((r4_Same.f k ((rd_T62 aF x8).f1) ((rd_T62 aG x8).f1)).bind fun eZ => (if eZ = true then (if ((rd_T62 aF x8).f0).toList = ((rd_T62 aG x8).f0).toList then (r6_Same.l0 k (wrap64 (x8 + 1)) aU aV aW aX aY aF aZ a0 a1 a2 a3 a4 a5 aG a6 a7) else (some false)) else (some false))) else (none)) else (none)) else (some true)
end
def r6_Same.f (k : Nat) (ad : ByteArray) (ao : List ByteArray) (ae : ByteArray) (af : ByteArray) (am : List ByteArray) (aa : List (S62)) (al : List ByteArray) (ag : ByteArray) (ah : ByteArray) (ar : List ByteArray) (ai : ByteArray) (aj : ByteArray) (aq : List ByteArray) (ab : List (S62)) (ap : List ByteArray) (ak : ByteArray) : Option (Bool) := (r4_Same.f k ao ar).bind fun a8 => ((r4_Same.f k am aq).bind fun aO => ((r4_Same.f k al ap).bind fun aN => (if a8 = true then (if aO = true then (if aN = true then (if ad.toList = ah.toList then (if ae.toList = ai.toList then (if af.toList = aj.toList then (if ag.toList = ak.toList then (r6_Same.j0 k ((aa.length : Int) != (ab.length : Int)) ad ao ae af am aa al ag ah ar ai aj aq ab ap ak) else (r6_Same.j0 k true ad ao ae af am aa al ag ah ar ai aj aq ab ap ak)) else (r6_Same.j0 k true ad ao ae af am aa al ag ah ar ai aj aq ab ap ak)) else (r6_Same.j0 k true ad ao ae af am aa al ag ah ar ai aj aq ab ap ak)) else (r6_Same.j0 k true ad ao ae af am aa al ag ah ar ai aj aq ab ap ak)) else (r6_Same.j0 k true ad ao ae af am aa al ag ah ar ai aj aq ab ap ak)) else (r6_Same.j0 k true ad ao ae af am aa al ag ah ar ai aj aq ab ap ak)) else (r6_Same.j0 k true ad ao ae af am aa al ag ah ar ai aj aq ab ap ak))))
set_option maxHeartbeats 8000000 in
set_option maxRecDepth 100000 in
theorem r6_Same.calls (k : Nat) (ad : ByteArray) (a9 : Option Addr) (ba : Nat) (ao : List ByteArray) (ae : ByteArray) (af : ByteArray) (bb : Option Addr) (bc : Nat) (am : List ByteArray) (bd : Option Addr) (be : Nat) (aa : List (S62)) (bf : Option Addr) (bg : Nat) (al : List ByteArray) (ag : ByteArray) (ah : ByteArray) (eH : Option Addr) (eI : Nat) (ar : List ByteArray) (ai : ByteArray) (aj : ByteArray) (eJ : Option Addr) (eK : Nat) (aq : List ByteArray) (eL : Option Addr) (eM : Nat) (ab : List (S62)) (eN : Option Addr) (eO : Nat) (ap : List ByteArray) (ak : ByteArray) (r : Bool) (w : World) (hr0_1 : Kd.C Kd.string w a9 ao.length ao) (hc0_1 : ao.length ≤ ba) (hr0_4 : Kd.C Kd.string w bb am.length am) (hc0_4 : am.length ≤ bc) (hr0_5 : Kd.C k62 w bd aa.length aa) (hc0_5 : aa.length ≤ be) (hr0_6 : Kd.C Kd.string w bf al.length al) (hc0_6 : al.length ≤ bg) (hr1_1 : Kd.C Kd.string w eH ar.length ar) (hc1_1 : ar.length ≤ eI) (hr1_4 : Kd.C Kd.string w eJ aq.length aq) (hc1_4 : aq.length ≤ eK) (hr1_5 : Kd.C k62 w eL ab.length ab) (hc1_5 : ab.length ≤ eM) (hr1_6 : Kd.C Kd.string w eN ap.length ap) (hc1_6 : ap.length ≤ eO) (h : r6_Same.f k ad ao ae af am aa al ag ah ar ai aj aq ab ap ak = some r) :
  Calls Try.prog 19 #[.agg #[.string ad, .slice a9 ao.length ba, .string ae, .string af, .slice bb am.length bc, .slice bd aa.length be, .slice bf al.length bg, .string ag], .agg #[.string ah, .slice eH ar.length eI, .string ai, .string aj, .slice eJ aq.length eK, .slice eL ab.length eM, .slice eN ap.length eO, .string ak]] w fun e w' => e = .returned (.bool r) ∧ Below w.heap.size w w' := by
 have hu34 := Try.underlying34
 have e4 := Aside0.mk hr0_1
 have e5 := Aside0.mk hc0_1
 clear hr0_1 hc0_1
 have e6 := Aside0.mk hr0_4
 have e7 := Aside0.mk hc0_4
 clear hr0_4 hc0_4
 have aH := Aside0.mk hr0_5
 have hp := Aside0.mk hc0_5
 clear hr0_5 hc0_5
 have e8 := Aside0.mk hr0_6
 have e9 := Aside0.mk hc0_6
 clear hr0_6 hc0_6
 have fa := Aside0.mk hr1_1
 have fb := Aside0.mk hc1_1
 clear hr1_1 hc1_1
 have fc := Aside0.mk hr1_4
 have fd := Aside0.mk hc1_4
 clear hr1_4 hc1_4
 have aI := Aside0.mk hr1_5
 have hq := Aside0.mk hc1_5
 clear hr1_5 hc1_5
 have fe := Aside0.mk hr1_6
 have ff := Aside0.mk hc1_6
 clear hr1_6 hc1_6
 have HB := Aside0.mk (Below.refl w.heap.size w)
 have H : ((r4_Same.f k ao ar).bind fun a8 => ((r4_Same.f k am aq).bind fun aO => ((r4_Same.f k al ap).bind fun aN => (if a8 = true then (if aO = true then (if aN = true then (if ad.toList = ah.toList then (if ae.toList = ai.toList then (if af.toList = aj.toList then (if ag.toList = ak.toList then (r6_Same.j0 k ((aa.length : Int) != (ab.length : Int)) ad ao ae af am aa al ag ah ar ai aj aq ab ap ak) else (r6_Same.j0 k true ad ao ae af am aa al ag ah ar ai aj aq ab ap ak)) else (r6_Same.j0 k true ad ao ae af am aa al ag ah ar ai aj aq ab ap ak)) else (r6_Same.j0 k true ad ao ae af am aa al ag ah ar ai aj aq ab ap ak)) else (r6_Same.j0 k true ad ao ae af am aa al ag ah ar ai aj aq ab ap ak)) else (r6_Same.j0 k true ad ao ae af am aa al ag ah ar ai aj aq ab ap ak)) else (r6_Same.j0 k true ad ao ae af am aa al ag ah ar ai aj aq ab ap ak)) else (r6_Same.j0 k true ad ao ae af am aa al ag ah ar ai aj aq ab ap ak))))) = some r := h
 clear h
 replace H := Option.bind_eq_some_iff.mp H
 obtain ⟨a8, hs, H⟩ := H
 replace H : ((r4_Same.f k am aq).bind fun aO => ((r4_Same.f k al ap).bind fun aN => (if a8 = true then (if aO = true then (if aN = true then (if ad.toList = ah.toList then (if ae.toList = ai.toList then (if af.toList = aj.toList then (if ag.toList = ak.toList then (r6_Same.j0 k ((aa.length : Int) != (ab.length : Int)) ad ao ae af am aa al ag ah ar ai aj aq ab ap ak) else (r6_Same.j0 k true ad ao ae af am aa al ag ah ar ai aj aq ab ap ak)) else (r6_Same.j0 k true ad ao ae af am aa al ag ah ar ai aj aq ab ap ak)) else (r6_Same.j0 k true ad ao ae af am aa al ag ah ar ai aj aq ab ap ak)) else (r6_Same.j0 k true ad ao ae af am aa al ag ah ar ai aj aq ab ap ak)) else (r6_Same.j0 k true ad ao ae af am aa al ag ah ar ai aj aq ab ap ak)) else (r6_Same.j0 k true ad ao ae af am aa al ag ah ar ai aj aq ab ap ak)) else (r6_Same.j0 k true ad ao ae af am aa al ag ah ar ai aj aq ab ap ak)))) = some r := H
 have A3 := Aside0.mk hs
 clear hs
 replace H := Option.bind_eq_some_iff.mp H
 obtain ⟨aO, ht, H⟩ := H
 replace H : ((r4_Same.f k al ap).bind fun aN => (if a8 = true then (if aO = true then (if aN = true then (if ad.toList = ah.toList then (if ae.toList = ai.toList then (if af.toList = aj.toList then (if ag.toList = ak.toList then (r6_Same.j0 k ((aa.length : Int) != (ab.length : Int)) ad ao ae af am aa al ag ah ar ai aj aq ab ap ak) else (r6_Same.j0 k true ad ao ae af am aa al ag ah ar ai aj aq ab ap ak)) else (r6_Same.j0 k true ad ao ae af am aa al ag ah ar ai aj aq ab ap ak)) else (r6_Same.j0 k true ad ao ae af am aa al ag ah ar ai aj aq ab ap ak)) else (r6_Same.j0 k true ad ao ae af am aa al ag ah ar ai aj aq ab ap ak)) else (r6_Same.j0 k true ad ao ae af am aa al ag ah ar ai aj aq ab ap ak)) else (r6_Same.j0 k true ad ao ae af am aa al ag ah ar ai aj aq ab ap ak)) else (r6_Same.j0 k true ad ao ae af am aa al ag ah ar ai aj aq ab ap ak))) = some r := H
 have A4 := Aside0.mk ht
 clear ht
 replace H := Option.bind_eq_some_iff.mp H
 obtain ⟨aN, hu, H⟩ := H
 replace H : (if a8 = true then (if aO = true then (if aN = true then (if ad.toList = ah.toList then (if ae.toList = ai.toList then (if af.toList = aj.toList then (if ag.toList = ak.toList then (r6_Same.j0 k ((aa.length : Int) != (ab.length : Int)) ad ao ae af am aa al ag ah ar ai aj aq ab ap ak) else (r6_Same.j0 k true ad ao ae af am aa al ag ah ar ai aj aq ab ap ak)) else (r6_Same.j0 k true ad ao ae af am aa al ag ah ar ai aj aq ab ap ak)) else (r6_Same.j0 k true ad ao ae af am aa al ag ah ar ai aj aq ab ap ak)) else (r6_Same.j0 k true ad ao ae af am aa al ag ah ar ai aj aq ab ap ak)) else (r6_Same.j0 k true ad ao ae af am aa al ag ah ar ai aj aq ab ap ak)) else (r6_Same.j0 k true ad ao ae af am aa al ag ah ar ai aj aq ab ap ak)) else (r6_Same.j0 k true ad ao ae af am aa al ag ah ar ai aj aq ab ap ak)) = some r := H
 have A5 := Aside0.mk hu
 clear hu
 have hm := Aside0.mk H
 clear H
 go_enter Try.func19, Try.ntmps19
 go_upto_region 4 with (first | ((with_reducible refine gate_dst (N := 2) rfl ?_); (try (refine gate_guard (by rfl) ?_; dsimp only)); refine box_event ?hg (N := 2) ?hd (cs := #[.string ad, .slice a9 ao.length ba, .string ae, .string af, .slice bb am.length bc, .slice bd aa.length be, .slice bf al.length bg, .string ag]) (t := 34) ?hr ?_; (case hd => rfl); (case hg => rfl); (case hr => first | (go_simp; done) | (go_simp; rfl)); intro aD hg w7 hbox hb; have fg := Aside0.mk (wT_ (Qw HB.out) hb); have fh := Aside0.mk (hbox); have fi := Aside0.mk ((by rw [hg]; exact (wZ_ (Qw HB.out)) : w.heap.size ≤ aD)); have fj := Aside0.mk ((by rw [hg]; exact (wZ_ (Qw HB.out)) : w.heap.size ≤ aD)); clear HB; have HB := fg; have au := fh; have GW637 := fi; have ax := fj; clear fg fh fi fj; clear hb hbox hg) | ((with_reducible refine gate_dst (N := 3) rfl ?_); (try (refine gate_guard (by rfl) ?_; dsimp only)); refine box_event ?hg (N := 3) ?hd (cs := #[.string ah, .slice eH ar.length eI, .string ai, .string aj, .slice eJ aq.length eK, .slice eL ab.length eM, .slice eN ap.length eO, .string ak]) (t := 34) ?hr ?_; (case hd => rfl); (case hg => rfl); (case hr => first | (go_simp; done) | (go_simp; rfl)); intro aE hg w8 hbox hb; have fg := Aside0.mk (blk_below (g := aD) (o := .cells #[.string ad, .slice a9 ao.length ba, .string ae, .string af, .slice bb am.length bc, .slice bd aa.length be, .slice bf al.length bg, .string ag] 34 (0, 0)) (Qb au.out) hb); have fh := Aside0.mk (wT_ (Qv HB.out ax.out) hb); have fi := Aside0.mk (hbox); have fj := Aside0.mk ((by rw [hg]; exact (wZ_ (Qv HB.out ax.out)) : w.heap.size ≤ aE)); have hv := Aside0.mk ((by rw [hg]; exact (wZ_ (Qv HB.out ax.out)) : w.heap.size ≤ aE)); have hw := Aside0.mk ((by rw [hg]; exact Nat.ne_of_lt (blk_lt (g := aD) (o := .cells #[.string ad, .slice a9 ao.length ba, .string ae, .string af, .slice bb am.length bc, .slice bd aa.length be, .slice bf al.length bg, .string ag] 34 (0, 0)) (Qb au.out)) : aD ≠ aE)); have hx := Aside0.mk ((by rw [hg]; exact Nat.ne_of_gt (blk_lt (g := aD) (o := .cells #[.string ad, .slice a9 ao.length ba, .string ae, .string af, .slice bb am.length bc, .slice bd aa.length be, .slice bf al.length bg, .string ag] 34 (0, 0)) (Qb au.out)) : aE ≠ aD)); clear au; clear HB; have au := fg; have HB := fh; have av := fi; have GW638 := fj; have aC := hv; have NB637_638 := hw; have NB638_637 := hx; clear fg fh fi fj hv hw hx; clear hb hbox hg; have hnb9 := NB637_638.out; have hnc9 := NB638_637.out; have bi : w8.cell? ⟨aD, 0, none⟩ = some (.string ad) := (bC_ au.out 0).trans rfl; have bj : w8.cell? ⟨aD, 1, none⟩ = some (.slice a9 ao.length ba) := (bC_ au.out 1).trans rfl; have bk : w8.cell? ⟨aD, 2, none⟩ = some (.string ae) := (bC_ au.out 2).trans rfl; have bm : w8.cell? ⟨aD, 3, none⟩ = some (.string af) := (bC_ au.out 3).trans rfl; have bn : w8.cell? ⟨aD, 4, none⟩ = some (.slice bb am.length bc) := (bC_ au.out 4).trans rfl; have bo : w8.cell? ⟨aD, 5, none⟩ = some (.slice bd aa.length be) := (bC_ au.out 5).trans rfl; have bp : w8.cell? ⟨aD, 6, none⟩ = some (.slice bf al.length bg) := (bC_ au.out 6).trans rfl; have bq : w8.cell? ⟨aD, 7, none⟩ = some (.string ag) := (bC_ au.out 7).trans rfl; have br := bF_ au.out 0; have bs := bF_ au.out 1; have bu := bF_ au.out 2; have bv := bF_ au.out 3; have bw := bF_ au.out 4; have bx := bF_ au.out 5; have bz := bF_ au.out 6; have bA := bF_ au.out 7; have bB : w8.cell? ⟨aE, 0, none⟩ = some (.string ah) := (bC_ av.out 0).trans rfl; have bC : w8.cell? ⟨aE, 1, none⟩ = some (.slice eH ar.length eI) := (bC_ av.out 1).trans rfl; have bD : w8.cell? ⟨aE, 2, none⟩ = some (.string ai) := (bC_ av.out 2).trans rfl; have bE : w8.cell? ⟨aE, 3, none⟩ = some (.string aj) := (bC_ av.out 3).trans rfl; have bF : w8.cell? ⟨aE, 4, none⟩ = some (.slice eJ aq.length eK) := (bC_ av.out 4).trans rfl; have bG : w8.cell? ⟨aE, 5, none⟩ = some (.slice eL ab.length eM) := (bC_ av.out 5).trans rfl; have bH : w8.cell? ⟨aE, 6, none⟩ = some (.slice eN ap.length eO) := (bC_ av.out 6).trans rfl; have bI : w8.cell? ⟨aE, 7, none⟩ = some (.string ak) := (bC_ av.out 7).trans rfl; have bJ := bF_ av.out 0; have bK := bF_ av.out 1; have bL := bF_ av.out 2; have bM := bF_ av.out 3; have bN := bF_ av.out 4; have bO := bF_ av.out 5; have bP := bF_ av.out 6; have bQ := bF_ av.out 7) | (go_at_call 56; (with_reducible refine (r4_Same.calls k _ _ ao _ _ ar a8 _ ?side1 ?side2 ?side3 ?side4 A3.out).mono ?_); (case side1 => exact Qc (cB_ e4.out HB.out)); (case side2 => exact e5.out); (case side3 => exact Qc (cB_ fa.out HB.out)); (case side4 => exact fb.out); rintro e w' ⟨rfl, ⟨nd, rfl⟩⟩; (try exact Qd)) | (go_at_call 56; (with_reducible refine (r4_Same.calls k _ _ am _ _ aq aO _ ?side1 ?side2 ?side3 ?side4 A4.out).mono ?_); (case side1 => repeat (first | exact (cB_ e6.out (Qy HB.out ax.out aC.out)) | (with_reducible refine cA_ ?_ _) | (with_reducible refine cN_ ?_ _) | (with_reducible refine cD_ ?_))); (case side2 => exact e7.out); (case side3 => repeat (first | exact (cB_ fc.out (Qy HB.out ax.out aC.out)) | (with_reducible refine cA_ ?_ _) | (with_reducible refine cN_ ?_ _) | (with_reducible refine cD_ ?_))); (case side4 => exact fd.out); rintro e w' ⟨rfl, ⟨nd, rfl⟩⟩; (try exact Qd)) | (go_at_call 56; (with_reducible refine (r4_Same.calls k _ _ al _ _ ap aN _ ?side1 ?side2 ?side3 ?side4 A5.out).mono ?_); (case side1 => repeat (first | exact (cB_ e8.out (Qy HB.out ax.out aC.out)) | (with_reducible refine cA_ ?_ _) | (with_reducible refine cN_ ?_ _) | (with_reducible refine cD_ ?_))); (case side2 => exact e9.out); (case side3 => repeat (first | exact (cB_ fe.out (Qy HB.out ax.out aC.out)) | (with_reducible refine cA_ ?_ _) | (with_reducible refine cN_ ?_ _) | (with_reducible refine cD_ ?_))); (case side4 => exact ff.out); rintro e w' ⟨rfl, ⟨nd, rfl⟩⟩; (try exact Qd)))
 (try simp only [Act.put, List.setIfInBounds_toArray, List.set_cons_zero, List.set_cons_succ])
 go_cut [71] (fun v71 wc => ∃ (kq : Nat) (bR : Bool), v71 = .bool bR ∧ Aside0 (r6_Same.j0 kq bR ad ao ae af am aa al ag ah ar ai aj aq ab ap ak = some r) ∧ Aside0 (kq ≤ k) ∧ Aside0 (wc.heap[aD]? = some (.cells #[.string ad, (.slice a9 ao.length ba), .string ae, .string af, (.slice bb am.length bc), (.slice bd aa.length be), (.slice bf al.length bg), .string ag] 34 (0, 0))) ∧ Aside0 (wc.heap[aE]? = some (.cells #[.string ah, (.slice eH ar.length eI), .string ai, .string aj, (.slice eJ aq.length eK), (.slice eL ab.length eM), (.slice eN ap.length eO), .string ak] 34 (0, 0))) ∧ Aside0 (Below w.heap.size w wc))
 case first =>
  have H := hm.out
  clear hm
  by_cases c12 : a8 = true
  ·subst c12
   have H1 : (if aO = true then (if aN = true then (if ad.toList = ah.toList then (if ae.toList = ai.toList then (if af.toList = aj.toList then (if ag.toList = ak.toList then (r6_Same.j0 k ((aa.length : Int) != (ab.length : Int)) ad ao ae af am aa al ag ah ar ai aj aq ab ap ak) else (r6_Same.j0 k true ad ao ae af am aa al ag ah ar ai aj aq ab ap ak)) else (r6_Same.j0 k true ad ao ae af am aa al ag ah ar ai aj aq ab ap ak)) else (r6_Same.j0 k true ad ao ae af am aa al ag ah ar ai aj aq ab ap ak)) else (r6_Same.j0 k true ad ao ae af am aa al ag ah ar ai aj aq ab ap ak)) else (r6_Same.j0 k true ad ao ae af am aa al ag ah ar ai aj aq ab ap ak)) else (r6_Same.j0 k true ad ao ae af am aa al ag ah ar ai aj aq ab ap ak)) = some r := by rw [if_pos rfl] at H; exact H
   clear H
   have H := H1
   clear H1
   by_cases c13 : aO = true
   ·subst c13
    have H1 : (if aN = true then (if ad.toList = ah.toList then (if ae.toList = ai.toList then (if af.toList = aj.toList then (if ag.toList = ak.toList then (r6_Same.j0 k ((aa.length : Int) != (ab.length : Int)) ad ao ae af am aa al ag ah ar ai aj aq ab ap ak) else (r6_Same.j0 k true ad ao ae af am aa al ag ah ar ai aj aq ab ap ak)) else (r6_Same.j0 k true ad ao ae af am aa al ag ah ar ai aj aq ab ap ak)) else (r6_Same.j0 k true ad ao ae af am aa al ag ah ar ai aj aq ab ap ak)) else (r6_Same.j0 k true ad ao ae af am aa al ag ah ar ai aj aq ab ap ak)) else (r6_Same.j0 k true ad ao ae af am aa al ag ah ar ai aj aq ab ap ak)) = some r := by rw [if_pos rfl] at H; exact H
    clear H
    have H := H1
    clear H1
    by_cases c14 : aN = true
    ·subst c14
     have H1 : (if ad.toList = ah.toList then (if ae.toList = ai.toList then (if af.toList = aj.toList then (if ag.toList = ak.toList then (r6_Same.j0 k ((aa.length : Int) != (ab.length : Int)) ad ao ae af am aa al ag ah ar ai aj aq ab ap ak) else (r6_Same.j0 k true ad ao ae af am aa al ag ah ar ai aj aq ab ap ak)) else (r6_Same.j0 k true ad ao ae af am aa al ag ah ar ai aj aq ab ap ak)) else (r6_Same.j0 k true ad ao ae af am aa al ag ah ar ai aj aq ab ap ak)) else (r6_Same.j0 k true ad ao ae af am aa al ag ah ar ai aj aq ab ap ak)) = some r := by rw [if_pos rfl] at H; exact H
     clear H
     have H := H1
     clear H1
     by_cases c15 : ad.toList = ah.toList
     ·rw [if_pos c15] at H
      have aP : (ad.toList == ah.toList) = true := beq_iff_eq.mpr c15
      have bh : (ad.toList != ah.toList) = false := bne_eq_false_iff_eq.mpr c15
      clear c15
      (first | rw [aP] | rw [bh] | (simp only [i64_w, i32_w]; rw [aP]) | skip)
      by_cases c16 : ae.toList = ai.toList
      ·rw [if_pos c16] at H
       have eP : (ae.toList == ai.toList) = true := beq_iff_eq.mpr c16
       have eQ : (ae.toList != ai.toList) = false := bne_eq_false_iff_eq.mpr c16
       clear c16
       by_cases c17 : af.toList = aj.toList
       ·rw [if_pos c17] at H
        have eR : (af.toList == aj.toList) = true := beq_iff_eq.mpr c17
        have eS : (af.toList != aj.toList) = false := bne_eq_false_iff_eq.mpr c17
        clear c17
        by_cases c18 : ag.toList = ak.toList
        ·rw [if_pos c18] at H
         have eT : (ag.toList == ak.toList) = true := beq_iff_eq.mpr c18
         have eU : (ag.toList != ak.toList) = false := bne_eq_false_iff_eq.mpr c18
         clear c18
         have H' := Aside0.mk H
         clear H
         have hnb19 := NB637_638.out
         have hnc19 := NB638_637.out
         obtain ⟨bS, bT, bU, bV, bW, bX, bY, bZ, b0, b1, b2, b3, b4, b5, b6, b7⟩ := c8_22 au.out
         obtain ⟨b8, b9, ca, cb, cc, cd, ce, cf, cg, ch, ci, cj, ck, cl, cm, cn⟩ := c8_22 av.out
         go_wp2
         repeat (go_quiet (fail); try go_wp2)
         go_meet
         case rel => exact ⟨_, (((aa.length : Int) != (ab.length : Int))), Qs, H', ⟨by first | omega | exact Nat.le_refl _⟩, ⟨Qb au.out⟩, ⟨Qb av.out⟩, ⟨Qy HB.out ax.out aC.out⟩⟩
        ·rw [if_neg c18] at H
         have eT : (ag.toList == ak.toList) = false := beq_eq_false_iff_ne.mpr c18
         have eU : (ag.toList != ak.toList) = true := bne_iff_ne.mpr c18
         have H' := Aside0.mk H
         clear H
         have hnb22 := NB637_638.out
         have hnc22 := NB638_637.out
         obtain ⟨co, cp, cq, cr, ct, cu, cv, cw, cx, cy, cz, cA, cB, cC, cD, cE⟩ := c8_22 au.out
         obtain ⟨cF, cG, cH, cI, cJ, cK, cM, cN, cO, cP, cQ, cS, cU, cV, cW, cX⟩ := c8_22 av.out
         go_wp2
         repeat (go_quiet (fail); try go_wp2)
         go_meet
         case rel => exact ⟨_, (true), Qs, H', ⟨by first | omega | exact Nat.le_refl _⟩, ⟨Qb au.out⟩, ⟨Qb av.out⟩, ⟨Qy HB.out ax.out aC.out⟩⟩
       ·rw [if_neg c17] at H
        have eR : (af.toList == aj.toList) = false := beq_eq_false_iff_ne.mpr c17
        have eS : (af.toList != aj.toList) = true := bne_iff_ne.mpr c17
        have H' := Aside0.mk H
        clear H
        have hnb25 := NB637_638.out
        have hnc25 := NB638_637.out
        obtain ⟨cY, cZ, da, db, dc, dd, de, df, dg, dh, di, dj, dk, dl, dm, dn⟩ := c8_22 au.out
        obtain ⟨dp, dq, dr, ds, dt, du, dv, dw, dx, dy, dz, dA, dB, dC, dD, dE⟩ := c8_22 av.out
        go_wp2
        repeat (go_quiet (fail); try go_wp2)
        go_meet
        case rel => exact ⟨_, (true), Qs, H', ⟨by first | omega | exact Nat.le_refl _⟩, ⟨Qb au.out⟩, ⟨Qb av.out⟩, ⟨Qy HB.out ax.out aC.out⟩⟩
      ·rw [if_neg c16] at H
       have eP : (ae.toList == ai.toList) = false := beq_eq_false_iff_ne.mpr c16
       have eQ : (ae.toList != ai.toList) = true := bne_iff_ne.mpr c16
       have H' := Aside0.mk H
       clear H
       have hnb28 := NB637_638.out
       have hnc28 := NB638_637.out
       obtain ⟨dF, dG, dH, dI, dJ, dK, dL, dM, dN, dO, dP, dQ, dR, dS, dT, dU⟩ := c8_22 au.out
       obtain ⟨dV, dW, dX, dY, dZ, d0, d1, d2, d3, d4, d5, d6, d7, d8, d9, ea⟩ := c8_22 av.out
       go_wp2
       repeat (go_quiet (fail); try go_wp2)
       go_meet
       case rel => exact ⟨_, (true), Qs, H', ⟨by first | omega | exact Nat.le_refl _⟩, ⟨Qb au.out⟩, ⟨Qb av.out⟩, ⟨Qy HB.out ax.out aC.out⟩⟩
     ·rw [if_neg c15] at H
      have aP : (ad.toList == ah.toList) = false := beq_eq_false_iff_ne.mpr c15
      have bh : (ad.toList != ah.toList) = true := bne_iff_ne.mpr c15
      (first | rw [aP] | rw [bh] | (simp only [i64_w, i32_w]; rw [aP]) | skip)
      have H' := Aside0.mk H
      clear H
      have hnb31 := NB637_638.out
      have hnc31 := NB638_637.out
      obtain ⟨eb, ec, ed, ee, ef, eg, eh, ei, ej, ek, el, em, en, eo, ep, eq⟩ := c8_22 au.out
      obtain ⟨er, es, et, eu, ev, ew, ex, ey, ez, eA, eB, eC, eD, eE, eF, eG⟩ := c8_22 av.out
      go_wp2
      repeat (go_quiet (fail); try go_wp2)
      go_meet
      case rel => exact ⟨_, (true), Qs, H', ⟨by first | omega | exact Nat.le_refl _⟩, ⟨Qb au.out⟩, ⟨Qb av.out⟩, ⟨Qy HB.out ax.out aC.out⟩⟩
    ·replace c14 := Bool.eq_false_iff.mpr c14
     subst c14
     have H1 : (r6_Same.j0 k true ad ao ae af am aa al ag ah ar ai aj aq ab ap ak) = some r := by rw [if_neg (show ¬ (false = true) by decide)] at H; exact H
     clear H
     have H := H1
     clear H1
     have H' := Aside0.mk H
     clear H
     go_wp2
     repeat (go_quiet (fail); try go_wp2)
     go_meet
     case rel => exact ⟨_, (true), Qs, H', ⟨by first | omega | exact Nat.le_refl _⟩, ⟨Qb au.out⟩, ⟨Qb av.out⟩, ⟨Qy HB.out ax.out aC.out⟩⟩
   ·replace c13 := Bool.eq_false_iff.mpr c13
    subst c13
    have H1 : (r6_Same.j0 k true ad ao ae af am aa al ag ah ar ai aj aq ab ap ak) = some r := by rw [if_neg (show ¬ (false = true) by decide)] at H; exact H
    clear H
    have H := H1
    clear H1
    have H' := Aside0.mk H
    clear H
    go_wp2
    repeat (go_quiet (fail); try go_wp2)
    go_meet
    case rel => exact ⟨_, (true), Qs, H', ⟨by first | omega | exact Nat.le_refl _⟩, ⟨Qb au.out⟩, ⟨Qb av.out⟩, ⟨Qy HB.out ax.out aC.out⟩⟩
  ·replace c12 := Bool.eq_false_iff.mpr c12
   subst c12
   have H1 : (r6_Same.j0 k true ad ao ae af am aa al ag ah ar ai aj aq ab ap ak) = some r := by rw [if_neg (show ¬ (false = true) by decide)] at H; exact H
   clear H
   have H := H1
   clear H1
   have H' := Aside0.mk H
   clear H
   go_wp2
   repeat (go_quiet (fail); try go_wp2)
   go_meet
   case rel => exact ⟨_, (true), Qs, H', ⟨by first | omega | exact Nat.le_refl _⟩, ⟨Qb au.out⟩, ⟨Qb av.out⟩, ⟨Qy HB.out ax.out aC.out⟩⟩
 case rest =>
  clear hm
  try clear c1; try clear c2; try clear p2; try clear c3; try clear c9; try clear c12; try clear c13; try clear c14; try clear c15; try clear aP; try clear bh; try clear c16; try clear eP; try clear eQ; try clear c17; try clear eR; try clear eS; try clear c18; try clear eT; try clear eU; try clear c19; try clear c22; try clear c25; try clear c28; try clear c31
  try clear bi bj bk bm bn bo bp bq; try clear bB bC bD bE bF bG bH bI; try clear bS bT bU bV bW bX bY bZ; try clear b8 b9 ca cb cc cd ce cf; try clear co cp cq cr ct cu cv cw; try clear cF cG cH cI cJ cK cM cN; try clear cY cZ da db dc dd de df; try clear dp dq dr ds dt du dv dw; try clear dF dG dH dI dJ dK dL dM; try clear dV dW dX dY dZ d0 d1 d2; try clear eb ec ed ee ef eg eh ei; try clear er es et eu ev ew ex ey; try clear br bs bu bv bw bx bz bA; try clear bJ bK bL bM bN bO bP bQ; try clear b0 b1 b2 b3 b4 b5 b6 b7; try clear cg ch ci cj ck cl cm cn; try clear cx cy cz cA cB cC cD cE; try clear cO cP cQ cS cU cV cW cX; try clear dg dh di dj dk dl dm dn; try clear dx dy dz dA dB dC dD dE; try clear dN dO dP dQ dR dS dT dU; try clear d3 d4 d5 d6 d7 d8 d9 ea; try clear ej ek el em en eo ep eq; try clear ez eA eB eC eD eE eF eG
  obtain ⟨kq, bR, rfl, HA, HJ5, au, av, HB⟩ := hcut
  cases kq with
  | zero => exact absurd HA.out (by simp [r6_Same.j0])
  | succ kj5 =>
   have H := HA.out
   clear HA
   simp only [r6_Same.j0] at H
   by_cases c34 : bR = true
   ·subst c34
    have H1 : (some false) = some r := by rw [if_pos rfl] at H; exact H
    clear H
    have H := H1
    clear H1
    obtain rfl := Option.some.inj H
    go_wp2
    repeat (go_quiet (fail); try go_wp2)
    go_ret
    exact ⟨Qe, Qy HB.out ax.out aC.out⟩
   ·replace c34 := Bool.eq_false_iff.mpr c34
    subst c34
    have H1 : (r6_Same.l0 kj5 0 ad ao ae af am aa al ag ah ar ai aj aq ab ap ak) = some r := by rw [if_neg (show ¬ (false = true) by decide)] at H; exact H
    clear H
    have H := H1
    clear H1
    have H' := Aside0.mk H
    clear H
    go_wp2
    repeat (go_quiet (fail); try go_wp2)
    go_loopg [8] kj5 (fun kq v8 w' => ∃ (ac : Int), v8 = .int .i64 ac ∧ Aside0 (r6_Same.l0 kq ac ad ao ae af am aa al ag ah ar ai aj aq ab ap ak = some r) ∧ Aside0 (kq ≤ kj5) ∧ Aside0 (w'.heap[aD]? = some (.cells #[.string ad, (.slice a9 ao.length ba), .string ae, .string af, (.slice bb am.length bc), (.slice bd aa.length be), (.slice bf al.length bg), .string ag] 34 (0, 0))) ∧ Aside0 (w'.heap[aE]? = some (.cells #[.string ah, (.slice eH ar.length eI), .string ai, .string aj, (.slice eJ aq.length eK), (.slice eL ab.length eM), (.slice eN ap.length eO), .string ak] 34 (0, 0))) ∧ Aside0 (Below w.heap.size w w'))
    case atStart => exact ⟨(0), Qs, H', ⟨Nat.le_refl _⟩, ⟨Qb au.out⟩, ⟨Qb av.out⟩, ⟨Qy HB.out ax.out aC.out⟩⟩
    case round =>
     clear H'
     try clear c1; try clear c2; try clear p2; try clear c3; try clear c9; try clear c12; try clear c13; try clear c14; try clear c15; try clear aP; try clear bh; try clear c16; try clear eP; try clear eQ; try clear c17; try clear eR; try clear eS; try clear c18; try clear eT; try clear eU; try clear c19; try clear c22; try clear c25; try clear c28; try clear c31; try clear c34
     try clear bi bj bk bm bn bo bp bq; try clear bB bC bD bE bF bG bH bI; try clear bS bT bU bV bW bX bY bZ; try clear b8 b9 ca cb cc cd ce cf; try clear co cp cq cr ct cu cv cw; try clear cF cG cH cI cJ cK cM cN; try clear cY cZ da db dc dd de df; try clear dp dq dr ds dt du dv dw; try clear dF dG dH dI dJ dK dL dM; try clear dV dW dX dY dZ d0 d1 d2; try clear eb ec ed ee ef eg eh ei; try clear er es et eu ev ew ex ey; try clear br bs bu bv bw bx bz bA; try clear bJ bK bL bM bN bO bP bQ; try clear b0 b1 b2 b3 b4 b5 b6 b7; try clear cg ch ci cj ck cl cm cn; try clear cx cy cz cA cB cC cD cE; try clear cO cP cQ cS cU cV cW cX; try clear dg dh di dj dk dl dm dn; try clear dx dy dz dA dB dC dD dE; try clear dN dO dP dQ dR dS dT dU; try clear d3 d4 d5 d6 d7 d8 d9 ea; try clear ej ek el em en eo ep eq; try clear ez eA eB eC eD eE eF eG
     try clear p2
     obtain ⟨ac, rfl, HA, HK2, au, av, HB⟩ := hrel
     cases gk with
     | zero => exact absurd HA.out (by simp [r6_Same.l0])
     | succ k2 =>
      have H := HA.out
      clear HA
      simp only [r6_Same.l0] at H
      by_cases c35 : ac < (aa.length : Int)
      ·rw [if_pos c35] at H
       have fk : decide (ac < (aa.length : Int)) = true := decide_eq_true c35
       clear c35
       by_cases c36 : 0 ≤ ac
       ·rw [if_pos c36] at H
        have hy : decide (0 ≤ ac) = true := decide_eq_true c36
        clear c36
        by_cases c37 : ac < (ab.length : Int)
        ·rw [if_pos c37] at H
         have hz : decide (ac < (ab.length : Int)) = true := decide_eq_true c37
         clear c37
         replace H := Option.bind_eq_some_iff.mp H
         obtain ⟨eZ, fl, H⟩ := H
         replace H : (if eZ = true then (if ((rd_T62 aa ac).f0).toList = ((rd_T62 ab ac).f0).toList then (r6_Same.l0 k2 (wrap64 (ac + 1)) ad ao ae af am aa al ag ah ar ai aj aq ab ap ak) else (some false)) else (some false)) = some r := H
         have e0 := Aside0.mk fl
         clear fl
         by_cases c39 : eZ = true
         ·subst c39
          have H1 : (if ((rd_T62 aa ac).f0).toList = ((rd_T62 ab ac).f0).toList then (r6_Same.l0 k2 (wrap64 (ac + 1)) ad ao ae af am aa al ag ah ar ai aj aq ab ap ak) else (some false)) = some r := by rw [if_pos rfl] at H; exact H
          clear H
          have H := H1
          clear H1
          by_cases c40 : ((rd_T62 aa ac).f0).toList = ((rd_T62 ab ac).f0).toList
          ·rw [if_pos c40] at H
           have fm : (((rd_T62 aa ac).f0).toList == ((rd_T62 ab ac).f0).toList) = true := beq_iff_eq.mpr c40
           have fn : (((rd_T62 aa ac).f0).toList != ((rd_T62 ab ac).f0).toList) = false := bne_eq_false_iff_eq.mpr c40
           clear c40
           have H' := Aside0.mk H
           clear H
           have hnb41 := NB637_638.out
           have hnc41 := NB638_637.out
           obtain ⟨fo, fp, fq, fr, fs, ft, fu, fv, fw, fx, fy, fz, fA, fB, fC, fD⟩ := c8_22 au.out
           have p642 : 0 ≤ (ac : Int) := of_decide_eq_true Qa
           have q642 : ac < (aa.length : Int) := of_decide_eq_true Qa
           obtain ⟨ad642, eV, eW, e642, hx642_0, hx642_1, hl642_1, hi642_1⟩ := at_T62 aH.out ac p642 q642
           cases e642
           replace hx642_0 := (HB.out.cell (World.block_lt_of_cell? w _ hx642_0)).trans hx642_0
           replace hx642_1 := (HB.out.cell (World.block_lt_of_cell? w _ hx642_1)).trans hx642_1
           have ay := Aside0.mk hi642_1
           have az := Aside0.mk hl642_1
           clear hi642_1 hl642_1
           replace p642 := eq_true p642
           replace q642 := eq_true q642
           obtain ⟨fE, fF, fG, fH, fI, fJ, fK, fL, fM, fN, fO, fP, fQ, fR, fS, fT⟩ := c8_22 av.out
           have p643 : 0 ≤ (ac : Int) := of_decide_eq_true Qa
           have q643 : ac < (ab.length : Int) := of_decide_eq_true Qa
           obtain ⟨ad643, eX, eY, e643, hx643_0, hx643_1, hl643_1, hi643_1⟩ := at_T62 aI.out ac p643 q643
           cases e643
           replace hx643_0 := (HB.out.cell (World.block_lt_of_cell? w _ hx643_0)).trans hx643_0
           replace hx643_1 := (HB.out.cell (World.block_lt_of_cell? w _ hx643_1)).trans hx643_1
           have aA := Aside0.mk hi643_1
           have aB := Aside0.mk hl643_1
           clear hi643_1 hl643_1
           replace p643 := eq_true p643
           replace q643 := eq_true q643
           go_wp2_with (first | (go_at_call 56; (with_reducible refine (r4_Same.calls k2 _ _ ((rd_T62 aa ac).f1) _ _ ((rd_T62 ab ac).f1) true _ ?side1 ?side2 ?side3 ?side4 e0.out).mono ?_); (case side1 => exact Qc (cB_ ay.out HB.out)); (case side2 => exact az.out); (case side3 => exact Qc (cB_ aA.out HB.out)); (case side4 => exact aB.out); rintro e w' ⟨rfl, ⟨nd, rfl⟩⟩; (try exact Qd); have p645 : 0 ≤ (ac : Int) := of_decide_eq_true Qa; have q645 : ac < (aa.length : Int) := of_decide_eq_true Qa; obtain ⟨ad645, aQ, aR, e645, hx645_0, hx645_1, hl645_1, hi645_1⟩ := at_T62 aH.out ac p645 q645; obtain rfl : ad642 = ad645 := (by injection e645); replace hx645_0 := (HB.out.cell (World.block_lt_of_cell? w _ hx645_0)).trans hx645_0; replace hx645_1 := (HB.out.cell (World.block_lt_of_cell? w _ hx645_1)).trans hx645_1; have aJ := Aside0.mk hi645_1; have aK := Aside0.mk hl645_1; clear hi645_1 hl645_1; replace p645 := eq_true p645; replace q645 := eq_true q645; have ea_ := Option.some.inj (hx642_1.symm.trans hx645_1); injection ea_ with ea_ en_ ec_; subst ea_; subst ec_; clear en_; have p646 : 0 ≤ (ac : Int) := of_decide_eq_true Qa; have q646 : ac < (ab.length : Int) := of_decide_eq_true Qa; obtain ⟨ad646, aS, aT, e646, hx646_0, hx646_1, hl646_1, hi646_1⟩ := at_T62 aI.out ac p646 q646; obtain rfl : ad643 = ad646 := (by injection e646); replace hx646_0 := (HB.out.cell (World.block_lt_of_cell? w _ hx646_0)).trans hx646_0; replace hx646_1 := (HB.out.cell (World.block_lt_of_cell? w _ hx646_1)).trans hx646_1; have aL := Aside0.mk hi646_1; have aM := Aside0.mk hl646_1; clear hi646_1 hl646_1; replace p646 := eq_true p646; replace q646 := eq_true q646; have ea_ := Option.some.inj (hx643_1.symm.trans hx646_1); injection ea_ with ea_ en_ ec_; subst ea_; subst ec_; clear en_))
           repeat (go_quiet (first | (go_at_call 56; (with_reducible refine (r4_Same.calls k2 _ _ ((rd_T62 aa ac).f1) _ _ ((rd_T62 ab ac).f1) true _ ?side1 ?side2 ?side3 ?side4 e0.out).mono ?_); (case side1 => exact Qc (cB_ ay.out HB.out)); (case side2 => exact az.out); (case side3 => exact Qc (cB_ aA.out HB.out)); (case side4 => exact aB.out); rintro e w' ⟨rfl, ⟨nd, rfl⟩⟩; (try exact Qd); have p645 : 0 ≤ (ac : Int) := of_decide_eq_true Qa; have q645 : ac < (aa.length : Int) := of_decide_eq_true Qa; obtain ⟨ad645, aQ, aR, e645, hx645_0, hx645_1, hl645_1, hi645_1⟩ := at_T62 aH.out ac p645 q645; obtain rfl : ad642 = ad645 := (by injection e645); replace hx645_0 := (HB.out.cell (World.block_lt_of_cell? w _ hx645_0)).trans hx645_0; replace hx645_1 := (HB.out.cell (World.block_lt_of_cell? w _ hx645_1)).trans hx645_1; have aJ := Aside0.mk hi645_1; have aK := Aside0.mk hl645_1; clear hi645_1 hl645_1; replace p645 := eq_true p645; replace q645 := eq_true q645; have ea_ := Option.some.inj (hx642_1.symm.trans hx645_1); injection ea_ with ea_ en_ ec_; subst ea_; subst ec_; clear en_; have p646 : 0 ≤ (ac : Int) := of_decide_eq_true Qa; have q646 : ac < (ab.length : Int) := of_decide_eq_true Qa; obtain ⟨ad646, aS, aT, e646, hx646_0, hx646_1, hl646_1, hi646_1⟩ := at_T62 aI.out ac p646 q646; obtain rfl : ad643 = ad646 := (by injection e646); replace hx646_0 := (HB.out.cell (World.block_lt_of_cell? w _ hx646_0)).trans hx646_0; replace hx646_1 := (HB.out.cell (World.block_lt_of_cell? w _ hx646_1)).trans hx646_1; have aL := Aside0.mk hi646_1; have aM := Aside0.mk hl646_1; clear hi646_1 hl646_1; replace p646 := eq_true p646; replace q646 := eq_true q646; have ea_ := Option.some.inj (hx643_1.symm.trans hx646_1); injection ea_ with ea_ en_ ec_; subst ea_; subst ec_; clear en_)); try go_wp2_with (first | (go_at_call 56; (with_reducible refine (r4_Same.calls k2 _ _ ((rd_T62 aa ac).f1) _ _ ((rd_T62 ab ac).f1) true _ ?side1 ?side2 ?side3 ?side4 e0.out).mono ?_); (case side1 => exact Qc (cB_ ay.out HB.out)); (case side2 => exact az.out); (case side3 => exact Qc (cB_ aA.out HB.out)); (case side4 => exact aB.out); rintro e w' ⟨rfl, ⟨nd, rfl⟩⟩; (try exact Qd); have p645 : 0 ≤ (ac : Int) := of_decide_eq_true Qa; have q645 : ac < (aa.length : Int) := of_decide_eq_true Qa; obtain ⟨ad645, aQ, aR, e645, hx645_0, hx645_1, hl645_1, hi645_1⟩ := at_T62 aH.out ac p645 q645; obtain rfl : ad642 = ad645 := (by injection e645); replace hx645_0 := (HB.out.cell (World.block_lt_of_cell? w _ hx645_0)).trans hx645_0; replace hx645_1 := (HB.out.cell (World.block_lt_of_cell? w _ hx645_1)).trans hx645_1; have aJ := Aside0.mk hi645_1; have aK := Aside0.mk hl645_1; clear hi645_1 hl645_1; replace p645 := eq_true p645; replace q645 := eq_true q645; have ea_ := Option.some.inj (hx642_1.symm.trans hx645_1); injection ea_ with ea_ en_ ec_; subst ea_; subst ec_; clear en_; have p646 : 0 ≤ (ac : Int) := of_decide_eq_true Qa; have q646 : ac < (ab.length : Int) := of_decide_eq_true Qa; obtain ⟨ad646, aS, aT, e646, hx646_0, hx646_1, hl646_1, hi646_1⟩ := at_T62 aI.out ac p646 q646; obtain rfl : ad643 = ad646 := (by injection e646); replace hx646_0 := (HB.out.cell (World.block_lt_of_cell? w _ hx646_0)).trans hx646_0; replace hx646_1 := (HB.out.cell (World.block_lt_of_cell? w _ hx646_1)).trans hx646_1; have aL := Aside0.mk hi646_1; have aM := Aside0.mk hl646_1; clear hi646_1 hl646_1; replace p646 := eq_true p646; replace q646 := eq_true q646; have ea_ := Option.some.inj (hx643_1.symm.trans hx646_1); injection ea_ with ea_ en_ ec_; subst ea_; subst ec_; clear en_)))
           go_roundg k2
           case measure => have := HJ5.out; have := HK2.out; omega
           case rel => exact ⟨(wrap64 (ac + 1)), Qs, H', ⟨by have := HJ5.out; have := HK2.out; omega⟩, ⟨Qb au.out⟩, ⟨Qb av.out⟩, ⟨Qy HB.out ax.out aC.out⟩⟩
          ·rw [if_neg c40] at H
           have fm : (((rd_T62 aa ac).f0).toList == ((rd_T62 ab ac).f0).toList) = false := beq_eq_false_iff_ne.mpr c40
           have fn : (((rd_T62 aa ac).f0).toList != ((rd_T62 ab ac).f0).toList) = true := bne_iff_ne.mpr c40
           obtain rfl := Option.some.inj H
           have hnb44 := NB637_638.out
           have hnc44 := NB638_637.out
           obtain ⟨fU, fV, fW, fX, fY, fZ, f2, f3, f4, f5, f6, f7, f8, f9, ga, gb⟩ := c8_22 au.out
           have p642 : 0 ≤ (ac : Int) := of_decide_eq_true Qa
           have q642 : ac < (aa.length : Int) := of_decide_eq_true Qa
           obtain ⟨ad642, eV, eW, e642, hx642_0, hx642_1, hl642_1, hi642_1⟩ := at_T62 aH.out ac p642 q642
           cases e642
           replace hx642_0 := (HB.out.cell (World.block_lt_of_cell? w _ hx642_0)).trans hx642_0
           replace hx642_1 := (HB.out.cell (World.block_lt_of_cell? w _ hx642_1)).trans hx642_1
           have ay := Aside0.mk hi642_1
           have az := Aside0.mk hl642_1
           clear hi642_1 hl642_1
           replace p642 := eq_true p642
           replace q642 := eq_true q642
           obtain ⟨gc, ge, gf, gg, gh, gi, gj, gl, gm, gn, go, gp, gq, gr, gs, gt⟩ := c8_22 av.out
           have p643 : 0 ≤ (ac : Int) := of_decide_eq_true Qa
           have q643 : ac < (ab.length : Int) := of_decide_eq_true Qa
           obtain ⟨ad643, eX, eY, e643, hx643_0, hx643_1, hl643_1, hi643_1⟩ := at_T62 aI.out ac p643 q643
           cases e643
           replace hx643_0 := (HB.out.cell (World.block_lt_of_cell? w _ hx643_0)).trans hx643_0
           replace hx643_1 := (HB.out.cell (World.block_lt_of_cell? w _ hx643_1)).trans hx643_1
           have aA := Aside0.mk hi643_1
           have aB := Aside0.mk hl643_1
           clear hi643_1 hl643_1
           replace p643 := eq_true p643
           replace q643 := eq_true q643
           go_wp2_with (first | (go_at_call 56; (with_reducible refine (r4_Same.calls k2 _ _ ((rd_T62 aa ac).f1) _ _ ((rd_T62 ab ac).f1) true _ ?side1 ?side2 ?side3 ?side4 e0.out).mono ?_); (case side1 => exact Qc (cB_ ay.out HB.out)); (case side2 => exact az.out); (case side3 => exact Qc (cB_ aA.out HB.out)); (case side4 => exact aB.out); rintro e w' ⟨rfl, ⟨nd, rfl⟩⟩; (try exact Qd); have p645 : 0 ≤ (ac : Int) := of_decide_eq_true Qa; have q645 : ac < (aa.length : Int) := of_decide_eq_true Qa; obtain ⟨ad645, aQ, aR, e645, hx645_0, hx645_1, hl645_1, hi645_1⟩ := at_T62 aH.out ac p645 q645; obtain rfl : ad642 = ad645 := (by injection e645); replace hx645_0 := (HB.out.cell (World.block_lt_of_cell? w _ hx645_0)).trans hx645_0; replace hx645_1 := (HB.out.cell (World.block_lt_of_cell? w _ hx645_1)).trans hx645_1; have aJ := Aside0.mk hi645_1; have aK := Aside0.mk hl645_1; clear hi645_1 hl645_1; replace p645 := eq_true p645; replace q645 := eq_true q645; have ea_ := Option.some.inj (hx642_1.symm.trans hx645_1); injection ea_ with ea_ en_ ec_; subst ea_; subst ec_; clear en_; have p646 : 0 ≤ (ac : Int) := of_decide_eq_true Qa; have q646 : ac < (ab.length : Int) := of_decide_eq_true Qa; obtain ⟨ad646, aS, aT, e646, hx646_0, hx646_1, hl646_1, hi646_1⟩ := at_T62 aI.out ac p646 q646; obtain rfl : ad643 = ad646 := (by injection e646); replace hx646_0 := (HB.out.cell (World.block_lt_of_cell? w _ hx646_0)).trans hx646_0; replace hx646_1 := (HB.out.cell (World.block_lt_of_cell? w _ hx646_1)).trans hx646_1; have aL := Aside0.mk hi646_1; have aM := Aside0.mk hl646_1; clear hi646_1 hl646_1; replace p646 := eq_true p646; replace q646 := eq_true q646; have ea_ := Option.some.inj (hx643_1.symm.trans hx646_1); injection ea_ with ea_ en_ ec_; subst ea_; subst ec_; clear en_))
           repeat (go_quiet (first | (go_at_call 56; (with_reducible refine (r4_Same.calls k2 _ _ ((rd_T62 aa ac).f1) _ _ ((rd_T62 ab ac).f1) true _ ?side1 ?side2 ?side3 ?side4 e0.out).mono ?_); (case side1 => exact Qc (cB_ ay.out HB.out)); (case side2 => exact az.out); (case side3 => exact Qc (cB_ aA.out HB.out)); (case side4 => exact aB.out); rintro e w' ⟨rfl, ⟨nd, rfl⟩⟩; (try exact Qd); have p645 : 0 ≤ (ac : Int) := of_decide_eq_true Qa; have q645 : ac < (aa.length : Int) := of_decide_eq_true Qa; obtain ⟨ad645, aQ, aR, e645, hx645_0, hx645_1, hl645_1, hi645_1⟩ := at_T62 aH.out ac p645 q645; obtain rfl : ad642 = ad645 := (by injection e645); replace hx645_0 := (HB.out.cell (World.block_lt_of_cell? w _ hx645_0)).trans hx645_0; replace hx645_1 := (HB.out.cell (World.block_lt_of_cell? w _ hx645_1)).trans hx645_1; have aJ := Aside0.mk hi645_1; have aK := Aside0.mk hl645_1; clear hi645_1 hl645_1; replace p645 := eq_true p645; replace q645 := eq_true q645; have ea_ := Option.some.inj (hx642_1.symm.trans hx645_1); injection ea_ with ea_ en_ ec_; subst ea_; subst ec_; clear en_; have p646 : 0 ≤ (ac : Int) := of_decide_eq_true Qa; have q646 : ac < (ab.length : Int) := of_decide_eq_true Qa; obtain ⟨ad646, aS, aT, e646, hx646_0, hx646_1, hl646_1, hi646_1⟩ := at_T62 aI.out ac p646 q646; obtain rfl : ad643 = ad646 := (by injection e646); replace hx646_0 := (HB.out.cell (World.block_lt_of_cell? w _ hx646_0)).trans hx646_0; replace hx646_1 := (HB.out.cell (World.block_lt_of_cell? w _ hx646_1)).trans hx646_1; have aL := Aside0.mk hi646_1; have aM := Aside0.mk hl646_1; clear hi646_1 hl646_1; replace p646 := eq_true p646; replace q646 := eq_true q646; have ea_ := Option.some.inj (hx643_1.symm.trans hx646_1); injection ea_ with ea_ en_ ec_; subst ea_; subst ec_; clear en_)); try go_wp2_with (first | (go_at_call 56; (with_reducible refine (r4_Same.calls k2 _ _ ((rd_T62 aa ac).f1) _ _ ((rd_T62 ab ac).f1) true _ ?side1 ?side2 ?side3 ?side4 e0.out).mono ?_); (case side1 => exact Qc (cB_ ay.out HB.out)); (case side2 => exact az.out); (case side3 => exact Qc (cB_ aA.out HB.out)); (case side4 => exact aB.out); rintro e w' ⟨rfl, ⟨nd, rfl⟩⟩; (try exact Qd); have p645 : 0 ≤ (ac : Int) := of_decide_eq_true Qa; have q645 : ac < (aa.length : Int) := of_decide_eq_true Qa; obtain ⟨ad645, aQ, aR, e645, hx645_0, hx645_1, hl645_1, hi645_1⟩ := at_T62 aH.out ac p645 q645; obtain rfl : ad642 = ad645 := (by injection e645); replace hx645_0 := (HB.out.cell (World.block_lt_of_cell? w _ hx645_0)).trans hx645_0; replace hx645_1 := (HB.out.cell (World.block_lt_of_cell? w _ hx645_1)).trans hx645_1; have aJ := Aside0.mk hi645_1; have aK := Aside0.mk hl645_1; clear hi645_1 hl645_1; replace p645 := eq_true p645; replace q645 := eq_true q645; have ea_ := Option.some.inj (hx642_1.symm.trans hx645_1); injection ea_ with ea_ en_ ec_; subst ea_; subst ec_; clear en_; have p646 : 0 ≤ (ac : Int) := of_decide_eq_true Qa; have q646 : ac < (ab.length : Int) := of_decide_eq_true Qa; obtain ⟨ad646, aS, aT, e646, hx646_0, hx646_1, hl646_1, hi646_1⟩ := at_T62 aI.out ac p646 q646; obtain rfl : ad643 = ad646 := (by injection e646); replace hx646_0 := (HB.out.cell (World.block_lt_of_cell? w _ hx646_0)).trans hx646_0; replace hx646_1 := (HB.out.cell (World.block_lt_of_cell? w _ hx646_1)).trans hx646_1; have aL := Aside0.mk hi646_1; have aM := Aside0.mk hl646_1; clear hi646_1 hl646_1; replace p646 := eq_true p646; replace q646 := eq_true q646; have ea_ := Option.some.inj (hx643_1.symm.trans hx646_1); injection ea_ with ea_ en_ ec_; subst ea_; subst ec_; clear en_)))
           go_ret
           exact ⟨Qe, Qy HB.out ax.out aC.out⟩
         ·replace c39 := Bool.eq_false_iff.mpr c39
          subst c39
          have H1 : (some false) = some r := by rw [if_neg (show ¬ (false = true) by decide)] at H; exact H
          clear H
          have H := H1
          clear H1
          obtain rfl := Option.some.inj H
          have hnb47 := NB637_638.out
          have hnc47 := NB638_637.out
          obtain ⟨gu, gv, gw, gx, gy, gz, gA, gB, gC, gD, gE, gF, gG, gH, gI, gJ⟩ := c8_22 au.out
          have p642 : 0 ≤ (ac : Int) := of_decide_eq_true Qa
          have q642 : ac < (aa.length : Int) := of_decide_eq_true Qa
          obtain ⟨ad642, eV, eW, e642, hx642_0, hx642_1, hl642_1, hi642_1⟩ := at_T62 aH.out ac p642 q642
          cases e642
          replace hx642_0 := (HB.out.cell (World.block_lt_of_cell? w _ hx642_0)).trans hx642_0
          replace hx642_1 := (HB.out.cell (World.block_lt_of_cell? w _ hx642_1)).trans hx642_1
          have ay := Aside0.mk hi642_1
          have az := Aside0.mk hl642_1
          clear hi642_1 hl642_1
          replace p642 := eq_true p642
          replace q642 := eq_true q642
          obtain ⟨gK, gL, gM, gN, gO, gP, gQ, gR, gS, gT, gU, gV, gW, gX, gY, gZ⟩ := c8_22 av.out
          have p643 : 0 ≤ (ac : Int) := of_decide_eq_true Qa
          have q643 : ac < (ab.length : Int) := of_decide_eq_true Qa
          obtain ⟨ad643, eX, eY, e643, hx643_0, hx643_1, hl643_1, hi643_1⟩ := at_T62 aI.out ac p643 q643
          cases e643
          replace hx643_0 := (HB.out.cell (World.block_lt_of_cell? w _ hx643_0)).trans hx643_0
          replace hx643_1 := (HB.out.cell (World.block_lt_of_cell? w _ hx643_1)).trans hx643_1
          have aA := Aside0.mk hi643_1
          have aB := Aside0.mk hl643_1
          clear hi643_1 hl643_1
          replace p643 := eq_true p643
          replace q643 := eq_true q643
          go_wp2_with (first | (go_at_call 56; (with_reducible refine (r4_Same.calls k2 _ _ ((rd_T62 aa ac).f1) _ _ ((rd_T62 ab ac).f1) false _ ?side1 ?side2 ?side3 ?side4 e0.out).mono ?_); (case side1 => exact Qc (cB_ ay.out HB.out)); (case side2 => exact az.out); (case side3 => exact Qc (cB_ aA.out HB.out)); (case side4 => exact aB.out); rintro e w' ⟨rfl, ⟨nd, rfl⟩⟩; (try exact Qd)))
          repeat (go_quiet (first | (go_at_call 56; (with_reducible refine (r4_Same.calls k2 _ _ ((rd_T62 aa ac).f1) _ _ ((rd_T62 ab ac).f1) false _ ?side1 ?side2 ?side3 ?side4 e0.out).mono ?_); (case side1 => exact Qc (cB_ ay.out HB.out)); (case side2 => exact az.out); (case side3 => exact Qc (cB_ aA.out HB.out)); (case side4 => exact aB.out); rintro e w' ⟨rfl, ⟨nd, rfl⟩⟩; (try exact Qd))); try go_wp2_with (first | (go_at_call 56; (with_reducible refine (r4_Same.calls k2 _ _ ((rd_T62 aa ac).f1) _ _ ((rd_T62 ab ac).f1) false _ ?side1 ?side2 ?side3 ?side4 e0.out).mono ?_); (case side1 => exact Qc (cB_ ay.out HB.out)); (case side2 => exact az.out); (case side3 => exact Qc (cB_ aA.out HB.out)); (case side4 => exact aB.out); rintro e w' ⟨rfl, ⟨nd, rfl⟩⟩; (try exact Qd))))
          go_ret
          exact ⟨Qe, Qy HB.out ax.out aC.out⟩
        ·rw [if_neg c37] at H
         exact absurd H (by simp)
       ·rw [if_neg c36] at H
        exact absurd H (by simp)
      ·rw [if_neg c35] at H
       have fk : decide (ac < (aa.length : Int)) = false := decide_eq_false c35
       clear c35
       obtain rfl := Option.some.inj H
       have hnb50 := NB637_638.out
       have hnc50 := NB638_637.out
       obtain ⟨g0, g1, g2, g3, g4, g5, g6, g7, g8, g9, ha, hc, he, hf, hh, hi⟩ := c8_22 au.out
       go_wp2
       repeat (go_quiet (fail); try go_wp2)
       go_ret
       exact ⟨Qe, Qy HB.out ax.out aC.out⟩
end Go.Proofs.Ytojglflamecnkaa.P
