-- Written for this claim by the session's own run of the print, functions proved by hand put in.
import Derived.Test.YtojglflamecnkaaSq
import Derived.Test.YtojglflamecnkaaHandSubtags
import Derived.Test.YtojglflamecnkaaPx0
import Derived.Test.YtojglflamecnkaaPx4
import Derived.Test.YtojglflamecnkaaPx14
import Derived.Test.YtojglflamecnkaaPx18
namespace Go.Proofs.Ytojglflamecnkaa.P
open Go.RowKit Go.Proofs.YtojglflamecnkaaW.PrintWords Go.Proofs.YtojglflamecnkaaW.PrintLast Go.Proofs.YtojglflamecnkaaW.PrintMore
attribute [local go_sem] max2_int min2_int max_two min_two max_three min_three max_four min_four   -- for this text's walks alone
set_option linter.unusedVariables false
set_option linter.unusedSimpArgs false
def render_Lower.f (ag : ByteArray) (ac : List ByteArray) (ah : ByteArray) (ai : ByteArray) (ad : List ByteArray) (ae : List (S62)) (af : List ByteArray) (aj : ByteArray) : Option (ByteArray) := (tag_Subtags.f ag ac ah ai ad ae af aj).bind fun ay => ((split_Join.f ay).bind fun az => (some az))
set_option maxHeartbeats 8000000 in
set_option maxRecDepth 100000 in
theorem render_Lower.calls (ag : ByteArray) (am : Option Addr) (ao : Nat) (ac : List ByteArray) (ah : ByteArray) (ai : ByteArray) (ap : Option Addr) (aq : Nat) (ad : List ByteArray) (ar : Option Addr) (au : Nat) (ae : List (S62)) (av : Option Addr) (aw : Nat) (af : List ByteArray) (aj : ByteArray) (r : ByteArray) (w : World) (hr0_1 : Kd.C Kd.string w am ac.length ac) (hc0_1 : ac.length ≤ ao) (hr0_4 : Kd.C Kd.string w ap ad.length ad) (hc0_4 : ad.length ≤ aq) (hr0_5 : Kd.C k62 w ar ae.length ae) (hc0_5 : ae.length ≤ au) (hr0_6 : Kd.C Kd.string w av af.length af) (hc0_6 : af.length ≤ aw) (h : render_Lower.f ag ac ah ai ad ae af aj = some r) :
  Calls Try.prog 20 #[.agg #[.string ag, .slice am ac.length ao, .string ah, .string ai, .slice ap ad.length aq, .slice ar ae.length au, .slice av af.length aw, .string aj]] w fun e w' => e = .returned (.string r) ∧ Below w.heap.size w w' := by
 have hu34 := Try.underlying34
 have aF := Aside0.mk hr0_1
 have aG := Aside0.mk hc0_1
 clear hr0_1 hc0_1
 have aH := Aside0.mk hr0_4
 have aI := Aside0.mk hc0_4
 clear hr0_4 hc0_4
 have aJ := Aside0.mk hr0_5
 have aK := Aside0.mk hc0_5
 clear hr0_5 hc0_5
 have aL := Aside0.mk hr0_6
 have aM := Aside0.mk hc0_6
 clear hr0_6 hc0_6
 have HB := Aside0.mk (Below.refl w.heap.size w)
 have H : ((tag_Subtags.f ag ac ah ai ad ae af aj).bind fun ay => ((split_Join.f ay).bind fun az => (some az))) = some r := h
 clear h
 replace H := Option.bind_eq_some_iff.mp H
 obtain ⟨ay, a5, H⟩ := H
 replace H : ((split_Join.f ay).bind fun az => (some az)) = some r := H
 have A2 := Aside0.mk a5
 clear a5
 replace H := Option.bind_eq_some_iff.mp H
 obtain ⟨az, a6, H⟩ := H
 replace H : (some az) = some r := H
 have A3 := Aside0.mk a6
 clear a6
 obtain rfl := Option.some.inj H
 go_enter Try.func20, Try.ntmps20
 go_wp2_with (first | ((with_reducible refine gate_dst (N := 1) rfl ?_); refine box_event ?hg (N := 1) ?hd (cs := #[.string ag, .slice am ac.length ao, .string ah, .string ai, .slice ap ad.length aq, .slice ar ae.length au, .slice av af.length aw, .string aj]) (t := 34) ?hr ?_; (case hd => rfl); (case hg => rfl); (case hr => first | (go_simp; done) | (go_simp; rfl)); intro ak hg w4 hbox hb; have aA := Aside0.mk (below_step (Qw HB.out) hb); have aB := Aside0.mk (hbox); have aN := Aside0.mk ((by rw [hg]; exact (below_size (Qw HB.out)) : w.heap.size ≤ ak)); have a7 := Aside0.mk ((by rw [hg]; exact (below_size (Qw HB.out)) : w.heap.size ≤ ak)); clear HB; have HB := aA; have aa := aB; have GW381 := aN; have aE := a7; clear aA aB aN a7; clear hb hbox hg; have aP : w4.cell? ⟨ak, 0, none⟩ = some (.string ag) := (blk_cell aa.out 0).trans rfl; have aQ : w4.cell? ⟨ak, 1, none⟩ = some (.slice am ac.length ao) := (blk_cell aa.out 1).trans rfl; have aR : w4.cell? ⟨ak, 2, none⟩ = some (.string ah) := (blk_cell aa.out 2).trans rfl; have aS : w4.cell? ⟨ak, 3, none⟩ = some (.string ai) := (blk_cell aa.out 3).trans rfl; have aT : w4.cell? ⟨ak, 4, none⟩ = some (.slice ap ad.length aq) := (blk_cell aa.out 4).trans rfl; have aU : w4.cell? ⟨ak, 5, none⟩ = some (.slice ar ae.length au) := (blk_cell aa.out 5).trans rfl; have aV : w4.cell? ⟨ak, 6, none⟩ = some (.slice av af.length aw) := (blk_cell aa.out 6).trans rfl; have aW : w4.cell? ⟨ak, 7, none⟩ = some (.string aj) := (blk_cell aa.out 7).trans rfl; have aX := blk_frozen aa.out 0; have aY := blk_frozen aa.out 1; have aZ := blk_frozen aa.out 2; have a0 := blk_frozen aa.out 3; have a1 := blk_frozen aa.out 4; have a2 := blk_frozen aa.out 5; have a3 := blk_frozen aa.out 6; have a4 := blk_frozen aa.out 7) | ((with_reducible refine gate_callee (f := 57) rfl ?_); refine goesL_ (some 4) rfl rfl Try.func57 (by kernel_rfl) rfl #[.agg #[.string ag, .slice am ac.length ao, .string ah, .string ai, .slice ap ad.length aq, .slice ar ae.length au, .slice av af.length aw, .string aj]] rfl Qm ?_; (with_reducible refine (tag_Subtags.calls ag _ _ ac ah ai _ _ ad _ _ ae _ _ af aj ay _ ?side1 ?side2 ?side3 ?side4 ?side5 ?side6 ?side7 ?side8 A2.out).mono ?_); (case side1 => exact Qc (Kd.C_below aF.out HB.out)); (case side2 => exact aG.out); (case side3 => exact Qc (Kd.C_below aH.out HB.out)); (case side4 => exact aI.out); (case side5 => exact Qc (Kd.C_below aJ.out HB.out)); (case side6 => exact aK.out); (case side7 => exact Qc (Kd.C_below aL.out HB.out)); (case side8 => exact aM.out); rintro e w6 ⟨v383, rfl, ho0, hb⟩; refine ⟨_, rfl, ?_⟩; have aA := Aside0.mk (Kd.R_lower ho0 (below_size (Qv HB.out aE.out))); have aB := Aside0.mk (blk_below (g := ak) (o := .cells #[.string ag, .slice am ac.length ao, .string ah, .string ai, .slice ap ad.length aq, .slice ar ae.length au, .slice av af.length aw, .string aj] 34 (0, 0)) (Qb aa.out) hb); have aN := Aside0.mk (below_step (Qv HB.out aE.out) hb); clear aa; clear HB; have ax := aA; have aa := aB; have HB := aN; clear aA aB aN; (try clear hb); (try clear hb2); (try clear hk); (try clear hi); (try clear ho0); obtain ⟨Ao7, co7, eo7⟩ := Kd.R_slice ax.out; subst eo7) | ((with_reducible refine gate_callee (f := 31) rfl ?_); refine goesL_ (some 5) rfl rfl Try.func31 (by kernel_rfl) rfl #[.slice Ao7 ay.length co7] rfl Qm ?_; (with_reducible refine (split_Join.calls _ _ ay az _ ?side1 ?side2 A3.out).mono ?_); (case side1 => repeat (first | exact (Kd.R_reads' ax.out).2.2 | (with_reducible refine Kd.C_alloc ?_ _) | (with_reducible refine Kd.C_drewN ?_ _) | (with_reducible refine Kd.C_drew ?_))); (case side2 => exact (Kd.R_reads' ax.out).2.1); rintro e w8 ⟨rfl, hb⟩; refine ⟨_, rfl, ?_⟩; have aA := Aside0.mk (Kd.R_below (Qr ax.out) hb); have aB := Aside0.mk (blk_below (g := ak) (o := .cells #[.string ag, .slice am ac.length ao, .string ah, .string ai, .slice ap ad.length aq, .slice ar ae.length au, .slice av af.length aw, .string aj] 34 (0, 0)) (Qb aa.out) hb); have aN := Aside0.mk (below_step (Qv HB.out aE.out) hb); clear ax; clear aa; clear HB; have ax := aA; have aa := aB; have HB := aN; clear aA aB aN; (try clear hb); (try clear hb2); (try clear hk); (try clear hi)))
 go_ret
 exact ⟨Qe, Qv HB.out aE.out⟩
def render_String.f (ag : ByteArray) (ac : List ByteArray) (ah : ByteArray) (ai : ByteArray) (ad : List ByteArray) (ae : List (S62)) (af : List ByteArray) (aj : ByteArray) : Option (ByteArray) := (render_Lower.f ag ac ah ai ad ae af aj).bind fun aC => ((render_Case.f aC).bind fun aD => (some aD))
set_option maxHeartbeats 8000000 in
set_option maxRecDepth 100000 in
theorem render_String.calls (ag : ByteArray) (am : Option Addr) (ao : Nat) (ac : List ByteArray) (ah : ByteArray) (ai : ByteArray) (ap : Option Addr) (aq : Nat) (ad : List ByteArray) (ar : Option Addr) (au : Nat) (ae : List (S62)) (av : Option Addr) (aw : Nat) (af : List ByteArray) (aj : ByteArray) (r : ByteArray) (w : World) (hr0_1 : Kd.C Kd.string w am ac.length ac) (hc0_1 : ac.length ≤ ao) (hr0_4 : Kd.C Kd.string w ap ad.length ad) (hc0_4 : ad.length ≤ aq) (hr0_5 : Kd.C k62 w ar ae.length ae) (hc0_5 : ae.length ≤ au) (hr0_6 : Kd.C Kd.string w av af.length af) (hc0_6 : af.length ≤ aw) (h : render_String.f ag ac ah ai ad ae af aj = some r) :
  Calls Try.prog 17 #[.agg #[.string ag, .slice am ac.length ao, .string ah, .string ai, .slice ap ad.length aq, .slice ar ae.length au, .slice av af.length aw, .string aj]] w fun e w' => e = .returned (.string r) ∧ Below w.heap.size w w' := by
 have hu34 := Try.underlying34
 have aF := Aside0.mk hr0_1
 have aG := Aside0.mk hc0_1
 clear hr0_1 hc0_1
 have aH := Aside0.mk hr0_4
 have aI := Aside0.mk hc0_4
 clear hr0_4 hc0_4
 have aJ := Aside0.mk hr0_5
 have aK := Aside0.mk hc0_5
 clear hr0_5 hc0_5
 have aL := Aside0.mk hr0_6
 have aM := Aside0.mk hc0_6
 clear hr0_6 hc0_6
 have HB := Aside0.mk (Below.refl w.heap.size w)
 have H : ((render_Lower.f ag ac ah ai ad ae af aj).bind fun aC => ((render_Case.f aC).bind fun aD => (some aD))) = some r := h
 clear h
 replace H := Option.bind_eq_some_iff.mp H
 obtain ⟨aC, a5, H⟩ := H
 replace H : ((render_Case.f aC).bind fun aD => (some aD)) = some r := H
 have A2 := Aside0.mk a5
 clear a5
 replace H := Option.bind_eq_some_iff.mp H
 obtain ⟨aD, a6, H⟩ := H
 replace H : (some aD) = some r := H
 have A3 := Aside0.mk a6
 clear a6
 obtain rfl := Option.some.inj H
 go_enter Try.func17, Try.ntmps17
 go_wp2_with (first | ((with_reducible refine gate_dst (N := 1) rfl ?_); refine box_event ?hg (N := 1) ?hd (cs := #[.string ag, .slice am ac.length ao, .string ah, .string ai, .slice ap ad.length aq, .slice ar ae.length au, .slice av af.length aw, .string aj]) (t := 34) ?hr ?_; (case hd => rfl); (case hg => rfl); (case hr => first | (go_simp; done) | (go_simp; rfl)); intro al hg w4 hbox hb; have aA := Aside0.mk (below_step (Qw HB.out) hb); have aB := Aside0.mk (hbox); have aN := Aside0.mk ((by rw [hg]; exact (below_size (Qw HB.out)) : w.heap.size ≤ al)); have a7 := Aside0.mk ((by rw [hg]; exact (below_size (Qw HB.out)) : w.heap.size ≤ al)); clear HB; have HB := aA; have ab := aB; have GW386 := aN; have aO := a7; clear aA aB aN a7; clear hb hbox hg; have aP : w4.cell? ⟨al, 0, none⟩ = some (.string ag) := (blk_cell ab.out 0).trans rfl; have aQ : w4.cell? ⟨al, 1, none⟩ = some (.slice am ac.length ao) := (blk_cell ab.out 1).trans rfl; have aR : w4.cell? ⟨al, 2, none⟩ = some (.string ah) := (blk_cell ab.out 2).trans rfl; have aS : w4.cell? ⟨al, 3, none⟩ = some (.string ai) := (blk_cell ab.out 3).trans rfl; have aT : w4.cell? ⟨al, 4, none⟩ = some (.slice ap ad.length aq) := (blk_cell ab.out 4).trans rfl; have aU : w4.cell? ⟨al, 5, none⟩ = some (.slice ar ae.length au) := (blk_cell ab.out 5).trans rfl; have aV : w4.cell? ⟨al, 6, none⟩ = some (.slice av af.length aw) := (blk_cell ab.out 6).trans rfl; have aW : w4.cell? ⟨al, 7, none⟩ = some (.string aj) := (blk_cell ab.out 7).trans rfl; have aX := blk_frozen ab.out 0; have aY := blk_frozen ab.out 1; have aZ := blk_frozen ab.out 2; have a0 := blk_frozen ab.out 3; have a1 := blk_frozen ab.out 4; have a2 := blk_frozen ab.out 5; have a3 := blk_frozen ab.out 6; have a4 := blk_frozen ab.out 7) | ((with_reducible refine gate_callee (f := 20) rfl ?_); refine goesL_ (some 4) rfl rfl Try.func20 (by kernel_rfl) rfl #[.agg #[.string ag, .slice am ac.length ao, .string ah, .string ai, .slice ap ad.length aq, .slice ar ae.length au, .slice av af.length aw, .string aj]] rfl Qm ?_; (with_reducible refine (render_Lower.calls ag _ _ ac ah ai _ _ ad _ _ ae _ _ af aj aC _ ?side1 ?side2 ?side3 ?side4 ?side5 ?side6 ?side7 ?side8 A2.out).mono ?_); (case side1 => exact Qc (Kd.C_below aF.out HB.out)); (case side2 => exact aG.out); (case side3 => exact Qc (Kd.C_below aH.out HB.out)); (case side4 => exact aI.out); (case side5 => exact Qc (Kd.C_below aJ.out HB.out)); (case side6 => exact aK.out); (case side7 => exact Qc (Kd.C_below aL.out HB.out)); (case side8 => exact aM.out); rintro e w6 ⟨rfl, hb⟩; refine ⟨_, rfl, ?_⟩; have aA := Aside0.mk (blk_below (g := al) (o := .cells #[.string ag, .slice am ac.length ao, .string ah, .string ai, .slice ap ad.length aq, .slice ar ae.length au, .slice av af.length aw, .string aj] 34 (0, 0)) (Qb ab.out) hb); have aB := Aside0.mk (below_step (Qv HB.out aO.out) hb); clear ab; clear HB; have ab := aA; have HB := aB; clear aA aB; (try clear hb); (try clear hb2); (try clear hk); (try clear hi)) | ((with_reducible refine gate_callee (f := 11) rfl ?_); refine goesL_ (some 5) rfl rfl Try.func11 (by kernel_rfl) rfl #[.string aC] rfl Qm ?_; (with_reducible refine (render_Case.calls aC aD _ A3.out).mono ?_); rintro e w7 ⟨rfl, hb⟩; refine ⟨_, rfl, ?_⟩; have aA := Aside0.mk (blk_below (g := al) (o := .cells #[.string ag, .slice am ac.length ao, .string ah, .string ai, .slice ap ad.length aq, .slice ar ae.length au, .slice av af.length aw, .string aj] 34 (0, 0)) (Qb ab.out) hb); have aB := Aside0.mk (below_step (Qv HB.out aO.out) hb); clear ab; clear HB; have ab := aA; have HB := aB; clear aA aB; (try clear hb); (try clear hb2); (try clear hk); (try clear hi)))
 go_ret
 exact ⟨Qe, Qv HB.out aO.out⟩
def IsS68 (w0 W : World) (g : Nat) (f0 : List (S58)) (f1 : Int) (f2 : Int) : Prop := ∃ A0 c0, W.heap[g]? = some (.cells #[.slice A0 f0.length c0, .int .i64 f1, .int .i64 f2] 68 (0, 0)) ∧ w0.heap.size ≤ g ∧ Kd.C k58 w0 A0 f0.length f0
theorem IsS68.grown {w0 W : World} {g : Nat} {f0 : List (S58)} {f1 : Int} {f2 : Int} {W1 : World} {row : Option Nat} (h : IsS68 w0 W g f0 f1 f2) (hw : W.grownBy W1 row) (hne : some g ≠ row) : IsS68 w0 W1 g f0 f1 f2 := by
 obtain ⟨A0, c0, hb, hg, hr0⟩ := h
 exact ⟨A0, c0, blk_grown hb hw hne, hg, hr0⟩
theorem IsS68.kept {w0 W : World} {g : Nat} {f0 : List (S58)} {f1 : Int} {f2 : Int} {W1 : World} {S : Nat → Prop} (h : IsS68 w0 W g f0 f1 f2) (hk : Kept W W1 S) (hne : ¬ S g) : IsS68 w0 W1 g f0 f1 f2 := by
 obtain ⟨A0, c0, hb, hg, hr0⟩ := h
 exact ⟨A0, c0, blk_kept hb hk hne, hg, hr0⟩
theorem IsS68.below {w0 W : World} {g : Nat} {f0 : List (S58)} {f1 : Int} {f2 : Int} {W1 : World} (h : IsS68 w0 W g f0 f1 f2) (hw : Below W.heap.size W W1) : IsS68 w0 W1 g f0 f1 f2 := h.grown (grown_of_below hw none) (by simp)
theorem IsS68.alloc {w0 W : World} {g : Nat} {f0 : List (S58)} {f1 : Int} {f2 : Int} (h : IsS68 w0 W g f0 f1 f2) (o : Obj) : IsS68 w0 (W.alloc o) g f0 f1 f2 := h.below (below_alloc (Below.refl _ _) o)
theorem IsS68.drewN {w0 W : World} {g : Nat} {f0 : List (S58)} {f1 : Int} {f2 : Int} (h : IsS68 w0 W g f0 f1 f2) (m : Nat) : IsS68 w0 (W.drewN m) g f0 f1 f2 := h
theorem IsS68.drew {w0 W : World} {g : Nat} {f0 : List (S58)} {f1 : Int} {f2 : Int} (h : IsS68 w0 W g f0 f1 f2) : IsS68 w0 W.drew g f0 f1 f2 := h
theorem IsS68.at_ {w0 W : World} {g : Nat} {f0 : List (S58)} {f1 : Int} {f2 : Int} {w' : World} {m : Nat} (hq : W.drewN m = w') (h : IsS68 w0 W g f0 f1 f2) : IsS68 w0 w' g f0 f1 f2 := by subst hq; exact IsS68.drewN h m
theorem IsS68.apart {w0 W : World} {g : Nat} {f0 : List (S58)} {f1 : Int} {f2 : Int} {α : Type} {d : Kd α} {e : Nat} {base : Nat} {ok : Nat → Prop} {v : Value} {xs : List α} (h : IsS68 w0 W g f0 f1 f2) (ho : d.R e W base ok v xs) (ht : ∀ q, q ∈ e :: d.E → q ≠ 68) : d.R e W base (fun k => ok k ∧ k ≠ g) v xs := by
 obtain ⟨A0, c0, hb, hg, hr0⟩ := h
 exact Kd.R_types ho hb ht
theorem IsS68.own_ne {w0 W : World} {g : Nat} {f0 : List (S58)} {f1 : Int} {f2 : Int} {α : Type} {d : Kd α} {e : Nat} {base : Nat} {ok : Nat → Prop} {v : Value} {xs : List α} (h : IsS68 w0 W g f0 f1 f2) (ho : d.R e W base ok v xs) (ht : e ≠ 68) : some g ≠ v.ownBlock := by
 obtain ⟨A0, c0, hb, hg, hr0⟩ := h
 exact Kd.R_ne ho hb ht
theorem IsS68.lt {w0 W : World} {g : Nat} {f0 : List (S58)} {f1 : Int} {f2 : Int} (h : IsS68 w0 W g f0 f1 f2) : g < W.heap.size := by
 obtain ⟨A0, c0, hb, hg, hr0⟩ := h
 exact blk_lt hb
theorem IsS68.far {w0 W : World} {g : Nat} {f0 : List (S58)} {f1 : Int} {f2 : Int} {p : Addr} (h : IsS68 w0 W g f0 f1 f2) (hne : g ≠ p.block) (u : Value) : IsS68 w0 (W.setCell p u) g f0 f1 f2 := by
 obtain ⟨A0, c0, hb, hg, hr0⟩ := h
 exact ⟨A0, c0, blk_far hb hne u, hg, hr0⟩
theorem IsS68.new (w0 W : World) (A0 : Option Addr) (c0 : Nat) (f0 : List (S58)) (f1 : Int) (f2 : Int) (hB : Below w0.heap.size w0 W) (hr0 : Kd.C k58 w0 A0 f0.length f0) : IsS68 w0 (W.alloc (.cells #[.slice A0 f0.length c0, .int .i64 f1, .int .i64 f2] 68)) W.heap.size f0 f1 f2 := ⟨A0, c0, by simpa using heap_alloc_new W _, hB.size, hr0⟩
end Go.Proofs.Ytojglflamecnkaa.P
