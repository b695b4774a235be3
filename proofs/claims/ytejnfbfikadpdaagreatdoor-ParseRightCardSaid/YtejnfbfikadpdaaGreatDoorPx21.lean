-- Written for this claim by the session's own run of the print, functions proved by hand put in.
import Derived.Test.YtejnfbfikadpdaaGreatDoorSq
import Derived.Test.YtejnfbfikadpdaaGreatDoorPx0
namespace Go.Proofs.YtejnfbfikadpdaaGreatDoor.P
open Go.RowKit Go.Proofs.YtejnfbfikadpdaaGreatDoorW.PrintWords Go.Proofs.YtejnfbfikadpdaaGreatDoorW.PrintLast Go.Proofs.YtejnfbfikadpdaaGreatDoorW.PrintMore
attribute [local go_sem] max2_int min2_int max_two min_two max_three min_three max_four min_four   -- for this text's walks alone
set_option linter.unusedVariables false
set_option linter.unusedSimpArgs false
def tag_rules_bare.f (ac : ByteArray) (af : List ByteArray) (ad : ByteArray) (ae : ByteArray) (ag : List ByteArray) (ah : List (S47)) (ai : List ByteArray) (aj : ByteArray) : Option (Bool) := if ac.toList = ([] : List UInt8) then (if ad.toList = ([] : List UInt8) then (if ae.toList = ([] : List UInt8) then (some ((wrap64 ((wrap64 ((af.length : Int) + (ag.length : Int))) + (ah.length : Int))) == 0)) else (some false)) else (some false)) else (some false)
set_option maxHeartbeats 8000000 in
set_option maxRecDepth 100000 in
theorem tag_rules_bare.calls (ac : ByteArray) (al : Option Addr) (am : Nat) (af : List ByteArray) (ad : ByteArray) (ae : ByteArray) (ao : Option Addr) (ap : Nat) (ag : List ByteArray) (aq : Option Addr) (ar : Nat) (ah : List (S47)) (au : Option Addr) (av : Nat) (ai : List ByteArray) (aj : ByteArray) (r : Bool) (w : World) (hr0_1 : Kd.C Kd.string w al af.length af) (hc0_1 : af.length ≤ am) (hr0_4 : Kd.C Kd.string w ao ag.length ag) (hc0_4 : ag.length ≤ ap) (hr0_5 : Kd.C k47 w aq ah.length ah) (hc0_5 : ah.length ≤ ar) (hr0_6 : Kd.C Kd.string w au ai.length ai) (hc0_6 : ai.length ≤ av) (h : tag_rules_bare.f ac af ad ae ag ah ai aj = some r) :
  Calls Tryz.prog 104 #[.agg #[.string ac, .slice al af.length am, .string ad, .string ae, .slice ao ag.length ap, .slice aq ah.length ar, .slice au ai.length av, .string aj]] w fun e w' => e = .returned (.bool r) ∧ Below w.heap.size w w' := by
 have hu142 := Tryz.underlying142
 have bR := Aside0.mk hr0_1
 have bS := Aside0.mk hc0_1
 clear hr0_1 hc0_1
 have bT := Aside0.mk hr0_4
 have bU := Aside0.mk hc0_4
 clear hr0_4 hc0_4
 have bV := Aside0.mk hr0_5
 have bW := Aside0.mk hc0_5
 clear hr0_5 hc0_5
 have bX := Aside0.mk hr0_6
 have bY := Aside0.mk hc0_6
 clear hr0_6 hc0_6
 have HB := Aside0.mk (Below.refl w.heap.size w)
 have H : (if ac.toList = ([] : List UInt8) then (if ad.toList = ([] : List UInt8) then (if ae.toList = ([] : List UInt8) then (some ((wrap64 ((wrap64 ((af.length : Int) + (ag.length : Int))) + (ah.length : Int))) == 0)) else (some false)) else (some false)) else (some false)) = some r := h
 clear h
 by_cases c2 : ac.toList = ([] : List UInt8)
 ·rw [if_pos c2] at H
  have a9 : (ac.toList == ([] : List UInt8)) = true := beq_iff_eq.mpr c2
  have aA : ac.toList.isEmpty = true := List.isEmpty_iff.2 c2
  have ba : (!ac.toList.isEmpty) = false := by rw [aA]; rfl
  have bb : (ac.toList != ([] : List UInt8)) = false := bne_eq_false_iff_eq.mpr c2
  clear c2
  by_cases c3 : ad.toList = ([] : List UInt8)
  ·rw [if_pos c3] at H
   have bc : (ad.toList == ([] : List UInt8)) = true := beq_iff_eq.mpr c3
   have aB : ad.toList.isEmpty = true := List.isEmpty_iff.2 c3
   have bd : (!ad.toList.isEmpty) = false := by rw [aB]; rfl
   have be : (ad.toList != ([] : List UInt8)) = false := bne_eq_false_iff_eq.mpr c3
   clear c3
   by_cases c4 : ae.toList = ([] : List UInt8)
   ·rw [if_pos c4] at H
    have bf : (ae.toList == ([] : List UInt8)) = true := beq_iff_eq.mpr c4
    have aC : ae.toList.isEmpty = true := List.isEmpty_iff.2 c4
    have bg : (!ae.toList.isEmpty) = false := by rw [aC]; rfl
    have bh : (ae.toList != ([] : List UInt8)) = false := bne_eq_false_iff_eq.mpr c4
    clear c4
    obtain rfl := Option.some.inj H
    go_enter Tryz.func104, Tryz.ntmps104
    go_wp2_with (first | ((with_reducible refine gate_dst (N := 1) rfl ?_); (try (refine gate_guard (by rfl) ?_; dsimp only)); refine box_event ?hg (N := 1) ?hd (cs := #[.string ac, .slice al af.length am, .string ad, .string ae, .slice ao ag.length ap, .slice aq ah.length ar, .slice au ai.length av, .string aj]) (t := 142) ?hr ?_; (case hd => rfl); (case hg => rfl); (case hr => first | (go_simp; done) | (go_simp; rfl)); intro ab hg w5 hbox hb; have aw := Aside0.mk (below_step (Qw HB.out) hb); have ax := Aside0.mk (hbox); have ay := Aside0.mk ((by rw [hg]; exact (below_size (Qw HB.out)) : w.heap.size ≤ ab)); have az := Aside0.mk ((by rw [hg]; exact (below_size (Qw HB.out)) : w.heap.size ≤ ab)); clear HB; have HB := aw; have aa := ax; have GW678 := ay; have ak := az; clear aw ax ay az; clear hb hbox hg; have bi : w5.cell? ⟨ab, 0, none⟩ = some (.string ac) := (blk_cell aa.out 0).trans rfl; have bj : w5.cell? ⟨ab, 1, none⟩ = some (.slice al af.length am) := (blk_cell aa.out 1).trans rfl; have bk : w5.cell? ⟨ab, 2, none⟩ = some (.string ad) := (blk_cell aa.out 2).trans rfl; have bm : w5.cell? ⟨ab, 3, none⟩ = some (.string ae) := (blk_cell aa.out 3).trans rfl; have bn : w5.cell? ⟨ab, 4, none⟩ = some (.slice ao ag.length ap) := (blk_cell aa.out 4).trans rfl; have bo : w5.cell? ⟨ab, 5, none⟩ = some (.slice aq ah.length ar) := (blk_cell aa.out 5).trans rfl; have bp : w5.cell? ⟨ab, 6, none⟩ = some (.slice au ai.length av) := (blk_cell aa.out 6).trans rfl; have bq : w5.cell? ⟨ab, 7, none⟩ = some (.string aj) := (blk_cell aa.out 7).trans rfl; have br := blk_frozen aa.out 0; have bs := blk_frozen aa.out 1; have bu := blk_frozen aa.out 2; have bv := blk_frozen aa.out 3; have bw := blk_frozen aa.out 4; have bx := blk_frozen aa.out 5; have bz := blk_frozen aa.out 6; have bA := blk_frozen aa.out 7))
    go_ret
    exact ⟨Qe, Qv HB.out ak.out⟩
   ·rw [if_neg c4] at H
    have bf : (ae.toList == ([] : List UInt8)) = false := beq_eq_false_iff_ne.mpr c4
    have aC : ae.toList.isEmpty = false := List.isEmpty_eq_false_iff.2 c4
    have bg : (!ae.toList.isEmpty) = true := by rw [aC]; rfl
    have bh : (ae.toList != ([] : List UInt8)) = true := bne_iff_ne.mpr c4
    obtain rfl := Option.some.inj H
    go_enter Tryz.func104, Tryz.ntmps104
    go_wp2_with (first | ((with_reducible refine gate_dst (N := 1) rfl ?_); (try (refine gate_guard (by rfl) ?_; dsimp only)); refine box_event ?hg (N := 1) ?hd (cs := #[.string ac, .slice al af.length am, .string ad, .string ae, .slice ao ag.length ap, .slice aq ah.length ar, .slice au ai.length av, .string aj]) (t := 142) ?hr ?_; (case hd => rfl); (case hg => rfl); (case hr => first | (go_simp; done) | (go_simp; rfl)); intro ab hg w7 hbox hb; have aw := Aside0.mk (below_step (Qw HB.out) hb); have ax := Aside0.mk (hbox); have ay := Aside0.mk ((by rw [hg]; exact (below_size (Qw HB.out)) : w.heap.size ≤ ab)); have az := Aside0.mk ((by rw [hg]; exact (below_size (Qw HB.out)) : w.heap.size ≤ ab)); clear HB; have HB := aw; have aa := ax; have GW678 := ay; have ak := az; clear aw ax ay az; clear hb hbox hg; have bB : w7.cell? ⟨ab, 0, none⟩ = some (.string ac) := (blk_cell aa.out 0).trans rfl; have bC : w7.cell? ⟨ab, 1, none⟩ = some (.slice al af.length am) := (blk_cell aa.out 1).trans rfl; have bD : w7.cell? ⟨ab, 2, none⟩ = some (.string ad) := (blk_cell aa.out 2).trans rfl; have bE : w7.cell? ⟨ab, 3, none⟩ = some (.string ae) := (blk_cell aa.out 3).trans rfl; have bF : w7.cell? ⟨ab, 4, none⟩ = some (.slice ao ag.length ap) := (blk_cell aa.out 4).trans rfl; have bG : w7.cell? ⟨ab, 5, none⟩ = some (.slice aq ah.length ar) := (blk_cell aa.out 5).trans rfl; have bH : w7.cell? ⟨ab, 6, none⟩ = some (.slice au ai.length av) := (blk_cell aa.out 6).trans rfl; have bI : w7.cell? ⟨ab, 7, none⟩ = some (.string aj) := (blk_cell aa.out 7).trans rfl; have bJ := blk_frozen aa.out 0; have bK := blk_frozen aa.out 1; have bL := blk_frozen aa.out 2; have bM := blk_frozen aa.out 3; have bN := blk_frozen aa.out 4; have bO := blk_frozen aa.out 5; have bP := blk_frozen aa.out 6; have bQ := blk_frozen aa.out 7))
    go_ret
    exact ⟨Qe, Qv HB.out ak.out⟩
  ·rw [if_neg c3] at H
   have bc : (ad.toList == ([] : List UInt8)) = false := beq_eq_false_iff_ne.mpr c3
   have aB : ad.toList.isEmpty = false := List.isEmpty_eq_false_iff.2 c3
   have bd : (!ad.toList.isEmpty) = true := by rw [aB]; rfl
   have be : (ad.toList != ([] : List UInt8)) = true := bne_iff_ne.mpr c3
   obtain rfl := Option.some.inj H
   go_enter Tryz.func104, Tryz.ntmps104
   go_wp2_with (first | ((with_reducible refine gate_dst (N := 1) rfl ?_); (try (refine gate_guard (by rfl) ?_; dsimp only)); refine box_event ?hg (N := 1) ?hd (cs := #[.string ac, .slice al af.length am, .string ad, .string ae, .slice ao ag.length ap, .slice aq ah.length ar, .slice au ai.length av, .string aj]) (t := 142) ?hr ?_; (case hd => rfl); (case hg => rfl); (case hr => first | (go_simp; done) | (go_simp; rfl)); intro ab hg w9 hbox hb; have aw := Aside0.mk (below_step (Qw HB.out) hb); have ax := Aside0.mk (hbox); have ay := Aside0.mk ((by rw [hg]; exact (below_size (Qw HB.out)) : w.heap.size ≤ ab)); have az := Aside0.mk ((by rw [hg]; exact (below_size (Qw HB.out)) : w.heap.size ≤ ab)); clear HB; have HB := aw; have aa := ax; have GW678 := ay; have ak := az; clear aw ax ay az; clear hb hbox hg; have aD : w9.cell? ⟨ab, 0, none⟩ = some (.string ac) := (blk_cell aa.out 0).trans rfl; have aE : w9.cell? ⟨ab, 1, none⟩ = some (.slice al af.length am) := (blk_cell aa.out 1).trans rfl; have aF : w9.cell? ⟨ab, 2, none⟩ = some (.string ad) := (blk_cell aa.out 2).trans rfl; have aG : w9.cell? ⟨ab, 3, none⟩ = some (.string ae) := (blk_cell aa.out 3).trans rfl; have aH : w9.cell? ⟨ab, 4, none⟩ = some (.slice ao ag.length ap) := (blk_cell aa.out 4).trans rfl; have aI : w9.cell? ⟨ab, 5, none⟩ = some (.slice aq ah.length ar) := (blk_cell aa.out 5).trans rfl; have aJ : w9.cell? ⟨ab, 6, none⟩ = some (.slice au ai.length av) := (blk_cell aa.out 6).trans rfl; have aK : w9.cell? ⟨ab, 7, none⟩ = some (.string aj) := (blk_cell aa.out 7).trans rfl; have aL := blk_frozen aa.out 0; have aM := blk_frozen aa.out 1; have aN := blk_frozen aa.out 2; have aO := blk_frozen aa.out 3; have aP := blk_frozen aa.out 4; have aQ := blk_frozen aa.out 5; have aR := blk_frozen aa.out 6; have aS := blk_frozen aa.out 7))
   go_ret
   exact ⟨Qe, Qv HB.out ak.out⟩
 ·rw [if_neg c2] at H
  have a9 : (ac.toList == ([] : List UInt8)) = false := beq_eq_false_iff_ne.mpr c2
  have aA : ac.toList.isEmpty = false := List.isEmpty_eq_false_iff.2 c2
  have ba : (!ac.toList.isEmpty) = true := by rw [aA]; rfl
  have bb : (ac.toList != ([] : List UInt8)) = true := bne_iff_ne.mpr c2
  obtain rfl := Option.some.inj H
  go_enter Tryz.func104, Tryz.ntmps104
  go_wp2_with (first | ((with_reducible refine gate_dst (N := 1) rfl ?_); (try (refine gate_guard (by rfl) ?_; dsimp only)); refine box_event ?hg (N := 1) ?hd (cs := #[.string ac, .slice al af.length am, .string ad, .string ae, .slice ao ag.length ap, .slice aq ah.length ar, .slice au ai.length av, .string aj]) (t := 142) ?hr ?_; (case hd => rfl); (case hg => rfl); (case hr => first | (go_simp; done) | (go_simp; rfl)); intro ab hg w11 hbox hb; have aw := Aside0.mk (below_step (Qw HB.out) hb); have ax := Aside0.mk (hbox); have ay := Aside0.mk ((by rw [hg]; exact (below_size (Qw HB.out)) : w.heap.size ≤ ab)); have az := Aside0.mk ((by rw [hg]; exact (below_size (Qw HB.out)) : w.heap.size ≤ ab)); clear HB; have HB := aw; have aa := ax; have GW678 := ay; have ak := az; clear aw ax ay az; clear hb hbox hg; have aT : w11.cell? ⟨ab, 0, none⟩ = some (.string ac) := (blk_cell aa.out 0).trans rfl; have aU : w11.cell? ⟨ab, 1, none⟩ = some (.slice al af.length am) := (blk_cell aa.out 1).trans rfl; have aV : w11.cell? ⟨ab, 2, none⟩ = some (.string ad) := (blk_cell aa.out 2).trans rfl; have aW : w11.cell? ⟨ab, 3, none⟩ = some (.string ae) := (blk_cell aa.out 3).trans rfl; have aX : w11.cell? ⟨ab, 4, none⟩ = some (.slice ao ag.length ap) := (blk_cell aa.out 4).trans rfl; have aY : w11.cell? ⟨ab, 5, none⟩ = some (.slice aq ah.length ar) := (blk_cell aa.out 5).trans rfl; have aZ : w11.cell? ⟨ab, 6, none⟩ = some (.slice au ai.length av) := (blk_cell aa.out 6).trans rfl; have a0 : w11.cell? ⟨ab, 7, none⟩ = some (.string aj) := (blk_cell aa.out 7).trans rfl; have a1 := blk_frozen aa.out 0; have a2 := blk_frozen aa.out 1; have a3 := blk_frozen aa.out 2; have a4 := blk_frozen aa.out 3; have a5 := blk_frozen aa.out 4; have a6 := blk_frozen aa.out 5; have a7 := blk_frozen aa.out 6; have a8 := blk_frozen aa.out 7))
  go_ret
  exact ⟨Qe, Qv HB.out ak.out⟩
end Go.Proofs.YtejnfbfikadpdaaGreatDoor.P
