-- Written for this claim by the session's own run of the print, functions proved by hand put in.
import Derived.Test.YtoigdaioghmlpaaPx0
import Derived.Test.YtoigdaioghmlpaaPx1
import Derived.Test.YtoigdaioghmlpaaPx2
import Derived.Test.YtoigdaioghmlpaaPx3
import Derived.Test.YtoigdaioghmlpaaPx4
import Derived.Test.YtoigdaioghmlpaaPx5
namespace Go.Proofs.Ytoigdaioghmlpaa.P
open Go.RowKit Go.Proofs.YtoigdaioghmlpaaW.PrintWords Go.Proofs.YtoigdaioghmlpaaW.PrintLast Go.Proofs.YtoigdaioghmlpaaW.PrintMore
attribute [local go_sem] max2_int min2_int max_two min_two max_three min_three max_four min_four   -- for this text's walks alone
set_option linter.unusedVariables false
set_option linter.unusedSimpArgs false

/-! ### isoglosslaw21_LookupTells: function 4 -/
def isoglosslaw21_LookupTells.j0 : Nat → ByteArray → Bool → List ByteArray → Int → Bool → ByteArray → Bool → Option (Bool)
 | 0, _, _, _, _, _, _, _ => none
 | k + 1, x2, x7, x9, x11, x12, x14, x51 => if x51 = true then (some false) else (if x12 = true then (if x7 = true then (if 0 ≤ x11 then (if x11 < (x9.length : Int) then (some (x14.toList == (rdOf ByteArray.empty x9 x11).toList)) else (none)) else (none)) else (some false)) else (if x7 = true then (some (x14.toList == x2.toList)) else (some false)))
def isoglosslaw21_LookupTells.f (k : Nat) (l0 : List ByteArray) (l1 : List ByteArray) (a2 : ByteArray) : Option (Bool) := (isoglosslaw21_awake.f k).bind fun t190 => ((isoglossref20_Few.f k l0 5).bind fun t191 => ((isoglossref20_Few.f k l1 8).bind fun t194 => ((isoglosslaw21_short.f a2).bind fun t197 => ((lookup_Which.f k t191 t194).bind fun bt198 => ((isoglossref21_Which.f k t191 t194).bind fun bt201 => ((lookup_Lookup.f k t191 t194 t197).bind fun t205 => (if bt198.1 = bt201.1 then (if bt198.2.1 = bt201.2.1 then (isoglosslaw21_LookupTells.j0 k t197 t190 t194 bt198.2.1 bt198.2.2 t205 (bt198.2.2 != bt201.2.2)) else (isoglosslaw21_LookupTells.j0 k t197 t190 t194 bt198.2.1 bt198.2.2 t205 true)) else (isoglosslaw21_LookupTells.j0 k t197 t190 t194 bt198.2.1 bt198.2.2 t205 true))))))))
theorem isoglosslaw21_LookupTells.mono_l : ∀ k, (∀ y0 y1 y2 y3 y4 y5 y6, LeO (isoglosslaw21_LookupTells.j0 k y0 y1 y2 y3 y4 y5 y6) (isoglosslaw21_LookupTells.j0 (k + 1) y0 y1 y2 y3 y4 y5 y6))
 | 0 => fun _ _ _ _ _ _ _ r h => by simp [isoglosslaw21_LookupTells.j0] at h
 | k + 1 => by
  have ih0 := isoglosslaw21_LookupTells.mono_l k
  ·intro y0 y1 y2 y3 y4 y5 y6
   unfold isoglosslaw21_LookupTells.j0
   repeat' first
   | (with_reducible exact ih0 _ _ _ _ _ _ _)
   | (with_reducible exact isoglosslaw21_awake.mono _)
   | (with_reducible exact isoglossref20_Few.mono _ _ _)
   | (with_reducible exact isoglossref21_Which.mono _ _ _)
   | (with_reducible exact lookup_Lookup.mono _ _ _ _)
   | (with_reducible exact lookup_Which.mono _ _ _)
   | (with_reducible exact LeO.refl _)
   | (with_reducible exact LeO.none _)
   | (with_reducible refine LeO.ite ?_ ?_)
   | (with_reducible refine LeO.bind ?_ (fun _ => ?_))
   | exact ih0 _ _ _ _ _ _ _
   | exact isoglosslaw21_awake.mono _
   | exact isoglossref20_Few.mono _ _ _
   | exact isoglossref21_Which.mono _ _ _
   | exact lookup_Lookup.mono _ _ _ _
   | exact lookup_Which.mono _ _ _
   | exact LeO.none _
   | refine LeO.ite ?_ ?_
   | refine LeO.bind ?_ (fun _ => ?_)
theorem isoglosslaw21_LookupTells.mono : ∀ a0 a1 a2 k, LeO (isoglosslaw21_LookupTells.f k a0 a1 a2) (isoglosslaw21_LookupTells.f (k + 1) a0 a1 a2) := by
 intro a0 a1 a2 k
 have ih0 := isoglosslaw21_LookupTells.mono_l k
 unfold isoglosslaw21_LookupTells.f
 repeat' first
   | (with_reducible exact ih0 _ _ _ _ _ _ _)
   | (with_reducible exact isoglosslaw21_awake.mono _)
   | (with_reducible exact isoglossref20_Few.mono _ _ _)
   | (with_reducible exact isoglossref21_Which.mono _ _ _)
   | (with_reducible exact lookup_Lookup.mono _ _ _ _)
   | (with_reducible exact lookup_Which.mono _ _ _)
   | (with_reducible exact LeO.refl _)
   | (with_reducible exact LeO.none _)
   | (with_reducible refine LeO.ite ?_ ?_)
   | (with_reducible refine LeO.bind ?_ (fun _ => ?_))
   | exact ih0 _ _ _ _ _ _ _
   | exact isoglosslaw21_awake.mono _
   | exact isoglossref20_Few.mono _ _ _
   | exact isoglossref21_Which.mono _ _ _
   | exact lookup_Lookup.mono _ _ _ _
   | exact lookup_Which.mono _ _ _
   | exact LeO.none _
   | refine LeO.ite ?_ ?_
   | refine LeO.bind ?_ (fun _ => ?_)
set_option maxHeartbeats 8000000 in
set_option maxRecDepth 100000 in
theorem isoglosslaw21_LookupTells.calls (k : Nat) (A0 : Option Addr) (c0 : Nat) (l0 : List ByteArray) (A1 : Option Addr) (c1 : Nat) (l1 : List ByteArray) (a2 : ByteArray) (r : Bool) (w : World) (hr0 : Kd.C Kd.string w A0 l0.length l0) (hc0 : l0.length ≤ c0) (hr1 : Kd.C Kd.string w A1 l1.length l1) (hc1 : l1.length ≤ c1) (h : isoglosslaw21_LookupTells.f k l0 l1 a2 = some r) :
  Calls Try.prog 4 #[.slice A0 l0.length c0, .slice A1 l1.length c1, .string a2] w fun e w' => e = .returned (.bool r) ∧ Below w.heap.size w w' := by
 have hu35 := Try.underlying35
 have HR0 := Aside0.mk hr0
 have HC0 := Aside0.mk hc0
 clear hr0 hc0
 have HR1 := Aside0.mk hr1
 have HC1 := Aside0.mk hc1
 clear hr1 hc1
 have HB := Aside0.mk (Below.refl w.heap.size w)
 have H : ((isoglosslaw21_awake.f k).bind fun t190 => ((isoglossref20_Few.f k l0 5).bind fun t191 => ((isoglossref20_Few.f k l1 8).bind fun t194 => ((isoglosslaw21_short.f a2).bind fun t197 => ((lookup_Which.f k t191 t194).bind fun bt198 => ((isoglossref21_Which.f k t191 t194).bind fun bt201 => ((lookup_Lookup.f k t191 t194 t197).bind fun t205 => (if bt198.1 = bt201.1 then (if bt198.2.1 = bt201.2.1 then (isoglosslaw21_LookupTells.j0 k t197 t190 t194 bt198.2.1 bt198.2.2 t205 (bt198.2.2 != bt201.2.2)) else (isoglosslaw21_LookupTells.j0 k t197 t190 t194 bt198.2.1 bt198.2.2 t205 true)) else (isoglosslaw21_LookupTells.j0 k t197 t190 t194 bt198.2.1 bt198.2.2 t205 true))))))))) = some r := h
 clear h
 replace H := Option.bind_eq_some_iff.mp H
 obtain ⟨t190, A40, H⟩ := H
 replace H : ((isoglossref20_Few.f k l0 5).bind fun t191 => ((isoglossref20_Few.f k l1 8).bind fun t194 => ((isoglosslaw21_short.f a2).bind fun t197 => ((lookup_Which.f k t191 t194).bind fun bt198 => ((isoglossref21_Which.f k t191 t194).bind fun bt201 => ((lookup_Lookup.f k t191 t194 t197).bind fun t205 => (if bt198.1 = bt201.1 then (if bt198.2.1 = bt201.2.1 then (isoglosslaw21_LookupTells.j0 k t197 t190 t194 bt198.2.1 bt198.2.2 t205 (bt198.2.2 != bt201.2.2)) else (isoglosslaw21_LookupTells.j0 k t197 t190 t194 bt198.2.1 bt198.2.2 t205 true)) else (isoglosslaw21_LookupTells.j0 k t197 t190 t194 bt198.2.1 bt198.2.2 t205 true)))))))) = some r := H
 have A4 := Aside0.mk A40
 clear A40
 replace H := Option.bind_eq_some_iff.mp H
 obtain ⟨t191, A50, H⟩ := H
 replace H : ((isoglossref20_Few.f k l1 8).bind fun t194 => ((isoglosslaw21_short.f a2).bind fun t197 => ((lookup_Which.f k t191 t194).bind fun bt198 => ((isoglossref21_Which.f k t191 t194).bind fun bt201 => ((lookup_Lookup.f k t191 t194 t197).bind fun t205 => (if bt198.1 = bt201.1 then (if bt198.2.1 = bt201.2.1 then (isoglosslaw21_LookupTells.j0 k t197 t190 t194 bt198.2.1 bt198.2.2 t205 (bt198.2.2 != bt201.2.2)) else (isoglosslaw21_LookupTells.j0 k t197 t190 t194 bt198.2.1 bt198.2.2 t205 true)) else (isoglosslaw21_LookupTells.j0 k t197 t190 t194 bt198.2.1 bt198.2.2 t205 true))))))) = some r := H
 have A5 := Aside0.mk A50
 clear A50
 replace H := Option.bind_eq_some_iff.mp H
 obtain ⟨t194, A60, H⟩ := H
 replace H : ((isoglosslaw21_short.f a2).bind fun t197 => ((lookup_Which.f k t191 t194).bind fun bt198 => ((isoglossref21_Which.f k t191 t194).bind fun bt201 => ((lookup_Lookup.f k t191 t194 t197).bind fun t205 => (if bt198.1 = bt201.1 then (if bt198.2.1 = bt201.2.1 then (isoglosslaw21_LookupTells.j0 k t197 t190 t194 bt198.2.1 bt198.2.2 t205 (bt198.2.2 != bt201.2.2)) else (isoglosslaw21_LookupTells.j0 k t197 t190 t194 bt198.2.1 bt198.2.2 t205 true)) else (isoglosslaw21_LookupTells.j0 k t197 t190 t194 bt198.2.1 bt198.2.2 t205 true)))))) = some r := H
 have A6 := Aside0.mk A60
 clear A60
 replace H := Option.bind_eq_some_iff.mp H
 obtain ⟨t197, A70, H⟩ := H
 replace H : ((lookup_Which.f k t191 t194).bind fun bt198 => ((isoglossref21_Which.f k t191 t194).bind fun bt201 => ((lookup_Lookup.f k t191 t194 t197).bind fun t205 => (if bt198.1 = bt201.1 then (if bt198.2.1 = bt201.2.1 then (isoglosslaw21_LookupTells.j0 k t197 t190 t194 bt198.2.1 bt198.2.2 t205 (bt198.2.2 != bt201.2.2)) else (isoglosslaw21_LookupTells.j0 k t197 t190 t194 bt198.2.1 bt198.2.2 t205 true)) else (isoglosslaw21_LookupTells.j0 k t197 t190 t194 bt198.2.1 bt198.2.2 t205 true))))) = some r := H
 have A7 := Aside0.mk A70
 clear A70
 replace H := Option.bind_eq_some_iff.mp H
 obtain ⟨⟨t198, t199, t200⟩, A80, H⟩ := H
 replace H : ((isoglossref21_Which.f k t191 t194).bind fun bt201 => ((lookup_Lookup.f k t191 t194 t197).bind fun t205 => (if t198 = bt201.1 then (if t199 = bt201.2.1 then (isoglosslaw21_LookupTells.j0 k t197 t190 t194 t199 t200 t205 (t200 != bt201.2.2)) else (isoglosslaw21_LookupTells.j0 k t197 t190 t194 t199 t200 t205 true)) else (isoglosslaw21_LookupTells.j0 k t197 t190 t194 t199 t200 t205 true)))) = some r := H
 have A8 := Aside0.mk A80
 clear A80
 replace H := Option.bind_eq_some_iff.mp H
 obtain ⟨⟨t201, t202, t203⟩, A90, H⟩ := H
 replace H : ((lookup_Lookup.f k t191 t194 t197).bind fun t205 => (if t198 = t201 then (if t199 = t202 then (isoglosslaw21_LookupTells.j0 k t197 t190 t194 t199 t200 t205 (t200 != t203)) else (isoglosslaw21_LookupTells.j0 k t197 t190 t194 t199 t200 t205 true)) else (isoglosslaw21_LookupTells.j0 k t197 t190 t194 t199 t200 t205 true))) = some r := H
 have A9 := Aside0.mk A90
 clear A90
 replace H := Option.bind_eq_some_iff.mp H
 obtain ⟨t205, A100, H⟩ := H
 replace H : (if t198 = t201 then (if t199 = t202 then (isoglosslaw21_LookupTells.j0 k t197 t190 t194 t199 t200 t205 (t200 != t203)) else (isoglosslaw21_LookupTells.j0 k t197 t190 t194 t199 t200 t205 true)) else (isoglosslaw21_LookupTells.j0 k t197 t190 t194 t199 t200 t205 true)) = some r := H
 have A10 := Aside0.mk A100
 clear A100
 have HC11 := Aside0.mk H
 clear H
 go_enter Try.func4, Try.ntmps4
 go_upto_region 8 with (first | ((with_reducible refine gate_callee (f := 9) rfl ?_); refine goesL_ (some 15) rfl rfl Try.func9 (by kernel_rfl) rfl #[] rfl (by (try simp only [List.map_toArray, List.map_cons, List.map_nil]); first | done | rfl | (simp only [List.length_drop, List.length_take]; rfl)) ?_; (with_reducible refine (isoglosslaw21_awake.calls k  t190 _ A4.out).mono ?_); rintro e w12 ⟨rfl, hb⟩; refine ⟨_, rfl, ?_⟩; have n0_ := Aside0.mk (below_step (by repeat (first | (with_reducible first | exact HB.out | apply below_alloc | apply pw_below_drewN | apply below_drew1) | exact HB.out)) hb); clear HB; have HB := n0_; clear n0_; (try clear hb); (try clear hb2); (try clear hk); (try clear hi)) | ((with_reducible refine gate_callee (f := 14) rfl ?_); refine goesL_ (some 17) rfl rfl Try.func14 (by kernel_rfl) rfl #[.slice A0 l0.length c0, .int .i64 5] rfl (by (try simp only [List.map_toArray, List.map_cons, List.map_nil]); first | done | rfl | (simp only [List.length_drop, List.length_take]; rfl)) ?_; (with_reducible refine (isoglossref20_Few.calls k _ _ l0 5 t191 _ ?side1 ?side2 A5.out).mono ?_); (case side1 => repeat (first | exact (Kd.C_below HR0.out HB.out) | (with_reducible refine Kd.C_alloc ?_ _) | (with_reducible refine Kd.C_drewN ?_ _) | (with_reducible refine Kd.C_drew ?_))); (case side2 => exact HC0.out); rintro e w13 ⟨v192, rfl, ho0, hb⟩; refine ⟨_, rfl, ?_⟩; have n0_ := Aside0.mk (Kd.R_lower ho0 (below_size (by repeat (first | (with_reducible first | exact HB.out | apply below_alloc | apply pw_below_drewN | apply below_drew1) | exact HB.out)))); have n1_ := Aside0.mk (below_step (by repeat (first | (with_reducible first | exact HB.out | apply below_alloc | apply pw_below_drewN | apply below_drew1) | exact HB.out)) hb); clear HB; have HO193 := n0_; have HB := n1_; clear n0_ n1_; (try clear hb); (try clear hb2); (try clear hk); (try clear hi); (try clear ho0)) | ((with_reducible refine gate_callee (f := 14) rfl ?_); refine goesL_ (some 19) rfl rfl Try.func14 (by kernel_rfl) rfl #[.slice A1 l1.length c1, .int .i64 8] rfl (by (try simp only [List.map_toArray, List.map_cons, List.map_nil]); first | done | rfl | (simp only [List.length_drop, List.length_take]; rfl)) ?_; (with_reducible refine (isoglossref20_Few.calls k _ _ l1 8 t194 _ ?side1 ?side2 A6.out).mono ?_); (case side1 => repeat (first | exact (Kd.C_below HR1.out HB.out) | (with_reducible refine Kd.C_alloc ?_ _) | (with_reducible refine Kd.C_drewN ?_ _) | (with_reducible refine Kd.C_drew ?_))); (case side2 => exact HC1.out); rintro e w14 ⟨v195, rfl, ho0, hb⟩; refine ⟨_, rfl, ?_⟩; have n0_ := Aside0.mk (Kd.R_elder' (by (with_reducible repeat (first | apply Kd.R_alloc | apply Kd.R_drewN | apply Kd.R_drew)); exact HO193.out) (Kd.R_base ho0) hb); have n1_ := Aside0.mk (Kd.R_lower (Kd.R_new' ho0 (Kd.R_lt (by (with_reducible repeat (first | apply Kd.R_alloc | apply Kd.R_drewN | apply Kd.R_drew)); exact HO193.out))) (below_size (by repeat (first | (with_reducible first | exact HB.out | apply below_alloc | apply pw_below_drewN | apply below_drew1) | exact HB.out)))); have n2_ := Aside0.mk (below_step (by repeat (first | (with_reducible first | exact HB.out | apply below_alloc | apply pw_below_drewN | apply below_drew1) | exact HB.out)) hb); clear HO193; clear HB; have HO193 := n0_; have HO196 := n1_; have HB := n2_; clear n0_ n1_ n2_; (try clear hb); (try clear hb2); (try clear hk); (try clear hi); (try clear ho0)) | ((with_reducible refine gate_callee (f := 10) rfl ?_); refine goesL_ (some 21) rfl rfl Try.func10 (by kernel_rfl) rfl #[.string a2] rfl (by (try simp only [List.map_toArray, List.map_cons, List.map_nil]); first | done | rfl | (simp only [List.length_drop, List.length_take]; rfl)) ?_; (with_reducible refine (isoglosslaw21_short.calls a2 t197 _ A7.out).mono ?_); rintro e w' ⟨rfl, ⟨nd, rfl⟩⟩; refine ⟨_, rfl, ?_⟩; (try (rw [drewN_self w14]; generalize hq_ : World.drewN w14 _ = w14; have n0_ : Aside0 (Kd.R Kd.string 9 w14 w.heap.size (fun k_ => some k_ ≠ (v195 : Value).ownBlock) v192 t191) := ⟨by rw [← hq_]; exact (by (with_reducible repeat (first | apply Kd.R_alloc | apply Kd.R_drewN | apply Kd.R_drew)); exact Kd.R_mono HO193.out (fun _ hk => hk.2))⟩; have n1_ : Aside0 (Kd.R Kd.string 9 w14 w.heap.size (fun k_ => some k_ ≠ (v192 : Value).ownBlock) v195 t194) := ⟨by rw [← hq_]; exact (by (with_reducible repeat (first | apply Kd.R_alloc | apply Kd.R_drewN | apply Kd.R_drew)); exact Kd.R_mono HO196.out (fun _ hk => hk.2))⟩; have n2_ : Aside0 (Below w.heap.size w w14) := ⟨by rw [← hq_]; exact (by repeat (first | (with_reducible first | exact HB.out | apply below_alloc | apply pw_below_drewN | apply below_drew1) | exact HB.out))⟩; clear HO193 HO196 HB hq_; have HO193 := n0_; have HO196 := n1_; have HB := n2_; clear n0_ n1_ n2_)); obtain ⟨Ao15, co15, eo15⟩ := Kd.R_slice HO193.out; subst eo15; obtain ⟨Ao16, co16, eo16⟩ := Kd.R_slice HO196.out; subst eo16) | ((with_reducible refine gate_callee (f := 15) rfl ?_); refine goesL_ (some 25) rfl rfl Try.func15 (by kernel_rfl) rfl #[.slice Ao15 t191.length co15, .slice Ao16 t194.length co16] rfl (by (try simp only [List.map_toArray, List.map_cons, List.map_nil]); first | done | rfl | (simp only [List.length_drop, List.length_take]; rfl)) ?_; (with_reducible refine (lookup_Which.calls k _ _ t191 _ _ t194 t198 t199 t200 _ ?side1 ?side2 ?side3 ?side4 A8.out).mono ?_); (case side1 => repeat (first | exact (Kd.R_reads' HO193.out).2.2 | (with_reducible refine Kd.C_alloc ?_ _) | (with_reducible refine Kd.C_drewN ?_ _) | (with_reducible refine Kd.C_drew ?_))); (case side2 => exact (Kd.R_reads' HO193.out).2.1); (case side3 => repeat (first | exact (Kd.R_reads' HO196.out).2.2 | (with_reducible refine Kd.C_alloc ?_ _) | (with_reducible refine Kd.C_drewN ?_ _) | (with_reducible refine Kd.C_drew ?_))); (case side4 => exact (Kd.R_reads' HO196.out).2.1); rintro e w17 ⟨rfl, hb⟩; refine ⟨_, rfl, ?_⟩; have n0_ := Aside0.mk (Kd.R_below (by (with_reducible repeat (first | apply Kd.R_alloc | apply Kd.R_drewN | apply Kd.R_drew)); exact HO193.out) hb); have n1_ := Aside0.mk (Kd.R_below (by (with_reducible repeat (first | apply Kd.R_alloc | apply Kd.R_drewN | apply Kd.R_drew)); exact HO196.out) hb); have n2_ := Aside0.mk (below_step (by repeat (first | (with_reducible first | exact HB.out | apply below_alloc | apply pw_below_drewN | apply below_drew1) | exact HB.out)) hb); clear HO193; clear HO196; clear HB; have HO193 := n0_; have HO196 := n1_; have HB := n2_; clear n0_ n1_ n2_; (try clear hb); (try clear hb2); (try clear hk); (try clear hi)) | ((with_reducible refine gate_callee (f := 16) rfl ?_); refine goesL_ (some 31) rfl rfl Try.func16 (by kernel_rfl) rfl #[.slice Ao15 t191.length co15, .slice Ao16 t194.length co16] rfl (by (try simp only [List.map_toArray, List.map_cons, List.map_nil]); first | done | rfl | (simp only [List.length_drop, List.length_take]; rfl)) ?_; (with_reducible refine (isoglossref21_Which.calls k _ _ t191 _ _ t194 t201 t202 t203 _ ?side1 ?side2 ?side3 ?side4 A9.out).mono ?_); (case side1 => repeat (first | exact (Kd.R_reads' HO193.out).2.2 | (with_reducible refine Kd.C_alloc ?_ _) | (with_reducible refine Kd.C_drewN ?_ _) | (with_reducible refine Kd.C_drew ?_))); (case side2 => exact (Kd.R_reads' HO193.out).2.1); (case side3 => repeat (first | exact (Kd.R_reads' HO196.out).2.2 | (with_reducible refine Kd.C_alloc ?_ _) | (with_reducible refine Kd.C_drewN ?_ _) | (with_reducible refine Kd.C_drew ?_))); (case side4 => exact (Kd.R_reads' HO196.out).2.1); rintro e w18 ⟨rfl, hb⟩; refine ⟨_, rfl, ?_⟩; have n0_ := Aside0.mk (Kd.R_below (by (with_reducible repeat (first | apply Kd.R_alloc | apply Kd.R_drewN | apply Kd.R_drew)); exact HO193.out) hb); have n1_ := Aside0.mk (Kd.R_below (by (with_reducible repeat (first | apply Kd.R_alloc | apply Kd.R_drewN | apply Kd.R_drew)); exact HO196.out) hb); have n2_ := Aside0.mk (below_step (by repeat (first | (with_reducible first | exact HB.out | apply below_alloc | apply pw_below_drewN | apply below_drew1) | exact HB.out)) hb); clear HO193; clear HO196; clear HB; have HO193 := n0_; have HO196 := n1_; have HB := n2_; clear n0_ n1_ n2_; (try clear hb); (try clear hb2); (try clear hk); (try clear hi)) | ((with_reducible refine gate_dst (N := 13) rfl ?_); refine box_event ?hg (N := 13) ?hd (cs := #[.int .i64 0, .int .i64 0, .bool false]) (t := 35) ?hr ?_; (case hd => rfl); (case hg => rfl); (case hr => first | (go_simp; done) | (go_simp; rfl)); intro gb204 hg w19 hbox hb; have n0_ := Aside0.mk (Kd.R_below (by (with_reducible repeat (first | apply Kd.R_alloc | apply Kd.R_drewN | apply Kd.R_drew)); exact HO193.out) hb); have n1_ := Aside0.mk (Kd.R_below (by (with_reducible repeat (first | apply Kd.R_alloc | apply Kd.R_drewN | apply Kd.R_drew)); exact HO196.out) hb); have n2_ := Aside0.mk (below_step (by repeat (first | (with_reducible first | exact HB.out | apply below_alloc | apply pw_below_drewN | apply below_drew1) | exact HB.out)) hb); have n3_ := Aside0.mk (hbox); have n4_ := Aside0.mk ((by rw [hg]; exact (below_size (by repeat (first | (with_reducible first | exact HB.out | apply below_alloc | apply pw_below_drewN | apply below_drew1) | exact HB.out))) : w.heap.size ≤ gb204)); have n5_ := Aside0.mk ((by rw [hg]; exact (below_size (by repeat (first | (with_reducible first | exact HB.out | apply below_alloc | apply pw_below_drewN | apply below_drew1) | exact HB.out))) : w.heap.size ≤ gb204)); clear HO193; clear HO196; clear HB; have HO193 := n0_; have HO196 := n1_; have HB := n2_; have BK204 := n3_; have GW204 := n4_; have GE204 := n5_; clear n0_ n1_ n2_ n3_ n4_ n5_; clear hb hbox hg; have hcz20_0 : w19.cell? ⟨gb204, 0, none⟩ = some (.int .i64 0) := (blk_cell BK204.out 0).trans rfl; have hcz20_1 : w19.cell? ⟨gb204, 1, none⟩ = some (.int .i64 0) := (blk_cell BK204.out 1).trans rfl; have hcz20_2 : w19.cell? ⟨gb204, 2, none⟩ = some (.bool false) := (blk_cell BK204.out 2).trans rfl; have hfz20_0 := blk_frozen BK204.out 0; have hfz20_1 := blk_frozen BK204.out 1; have hfz20_2 := blk_frozen BK204.out 2) | ((with_reducible refine gate_callee (f := 17) rfl ?_); refine goesL_ (some 35) rfl rfl Try.func17 (by kernel_rfl) rfl #[.slice Ao15 t191.length co15, .slice Ao16 t194.length co16, .string t197] rfl (by (try simp only [List.map_toArray, List.map_cons, List.map_nil]); first | done | rfl | (simp only [List.length_drop, List.length_take]; rfl)) ?_; (with_reducible refine (lookup_Lookup.calls k _ _ t191 _ _ t194 t197 t205 _ ?side1 ?side2 ?side3 ?side4 A10.out).mono ?_); (case side1 => refine (Kd.R_reads' (e := 9) (base := w.heap.size) (ok := fun k_ => (True ∧ some k_ ≠ (.slice Ao16 t194.length co16 : Value).ownBlock)) (n := t191.length) (c := co15) ?_).2.2; exact (by (with_reducible repeat (first | apply Kd.R_alloc | apply Kd.R_drewN | apply Kd.R_drew)); exact (Kd.R_mono (Kd.R_far (p := ⟨gb204, 2, none⟩) (Kd.R_far (p := ⟨gb204, 1, none⟩) (Kd.R_far (p := ⟨gb204, 0, none⟩) (Kd.R_types HO193.out BK204.out (by decide)) (fun _ hk => hk.2) (.int .i64 t201)) (fun _ hk => hk.2) (.int .i64 t202)) (fun _ hk => hk.2) (.bool t203)) (fun _ h_ => (by first | exact h_.1 | exact ⟨trivial, h_.1⟩))))); (case side2 => exact (Kd.R_reads' HO193.out).2.1); (case side3 => refine (Kd.R_reads' (e := 9) (base := w.heap.size) (ok := fun k_ => (True ∧ some k_ ≠ (.slice Ao15 t191.length co15 : Value).ownBlock)) (n := t194.length) (c := co16) ?_).2.2; exact (by (with_reducible repeat (first | apply Kd.R_alloc | apply Kd.R_drewN | apply Kd.R_drew)); exact (Kd.R_mono (Kd.R_far (p := ⟨gb204, 2, none⟩) (Kd.R_far (p := ⟨gb204, 1, none⟩) (Kd.R_far (p := ⟨gb204, 0, none⟩) (Kd.R_types HO196.out BK204.out (by decide)) (fun _ hk => hk.2) (.int .i64 t201)) (fun _ hk => hk.2) (.int .i64 t202)) (fun _ hk => hk.2) (.bool t203)) (fun _ h_ => (by first | exact h_.1 | exact ⟨trivial, h_.1⟩))))); (case side4 => exact (Kd.R_reads' HO196.out).2.1); rintro e w21 ⟨rfl, hb⟩; refine ⟨_, rfl, ?_⟩; have n0_ := Aside0.mk (Kd.R_below (by (with_reducible repeat (first | apply Kd.R_alloc | apply Kd.R_drewN | apply Kd.R_drew)); exact (Kd.R_mono (Kd.R_far (p := ⟨gb204, 2, none⟩) (Kd.R_far (p := ⟨gb204, 1, none⟩) (Kd.R_far (p := ⟨gb204, 0, none⟩) (Kd.R_types HO193.out BK204.out (by decide)) (fun _ hk => hk.2) (.int .i64 t201)) (fun _ hk => hk.2) (.int .i64 t202)) (fun _ hk => hk.2) (.bool t203)) (fun _ h_ => (by first | exact h_.1 | exact ⟨trivial, h_.1⟩)))) hb); have n1_ := Aside0.mk (Kd.R_below (by (with_reducible repeat (first | apply Kd.R_alloc | apply Kd.R_drewN | apply Kd.R_drew)); exact (Kd.R_mono (Kd.R_far (p := ⟨gb204, 2, none⟩) (Kd.R_far (p := ⟨gb204, 1, none⟩) (Kd.R_far (p := ⟨gb204, 0, none⟩) (Kd.R_types HO196.out BK204.out (by decide)) (fun _ hk => hk.2) (.int .i64 t201)) (fun _ hk => hk.2) (.int .i64 t202)) (fun _ hk => hk.2) (.bool t203)) (fun _ h_ => (by first | exact h_.1 | exact ⟨trivial, h_.1⟩)))) hb); have n2_ := Aside0.mk (blk_below (g := gb204) (o := .cells #[.int .i64 t201, .int .i64 t202, .bool t203] 35 (0, 0)) (by (with_reducible repeat (first | refine blk_drewN ?_ _ | refine blk_drew ?_ | refine blk_alloc ?_ _)); refine blk_put (cs := #[.int .i64 t201, .int .i64 t202, .bool false]) ?_ 2 _ rfl; (with_reducible repeat (first | refine blk_drewN ?_ _ | refine blk_drew ?_ | refine blk_alloc ?_ _)); refine blk_put (cs := #[.int .i64 t201, .int .i64 0, .bool false]) ?_ 1 _ rfl; (with_reducible repeat (first | refine blk_drewN ?_ _ | refine blk_drew ?_ | refine blk_alloc ?_ _)); refine blk_put (cs := #[.int .i64 0, .int .i64 0, .bool false]) ?_ 0 _ rfl; (with_reducible repeat (first | refine blk_drewN ?_ _ | refine blk_drew ?_ | refine blk_alloc ?_ _)); exact BK204.out) hb); have n3_ := Aside0.mk (below_step (by repeat (first | (with_reducible first | exact HB.out | apply below_alloc | apply pw_below_drewN | apply below_drew1 | refine below_set ?_ GE204.out) | exact HB.out)) hb); clear HO193; clear HO196; clear BK204; clear HB; have HO193 := n0_; have HO196 := n1_; have BK204 := n2_; have HB := n3_; clear n0_ n1_ n2_ n3_; (try clear hb); (try clear hb2); (try clear hk); (try clear hi)))
 (try simp only [Act.put, List.setIfInBounds_toArray, List.set_cons_zero, List.set_cons_succ])
 go_cut [51] (fun v51 wc => ∃ (kq : Nat) (x51_10 : Bool), v51 = .bool x51_10 ∧ Aside0 (isoglosslaw21_LookupTells.j0 kq t197 t190 t194 t199 t200 t205 x51_10 = some r) ∧ Aside0 (kq ≤ k) ∧ Aside0 (Kd.R Kd.string 9 wc w.heap.size (fun _ => True) (.slice Ao16 t194.length co16) t194) ∧ Aside0 (wc.heap[gb204]? = some (.cells #[.int .i64 t201, .int .i64 t202, .bool t203] 35 (0, 0))) ∧ Aside0 (Below w.heap.size w wc))
 case first =>
  have H := HC11.out
  clear HC11
  by_cases c22 : t198 = t201
  ·rw [if_pos c22] at H
   have c22b0 : (t198 == t201) = true := beq_iff_eq.mpr c22
   have c22b1 : (t198 != t201) = false := bne_eq_false_iff_eq.mpr c22
   clear c22
   (first | rw [c22b0] | rw [c22b1] | (simp only [i64_w, i32_w]; rw [c22b0]) | skip)
   by_cases c23 : t199 = t202
   ·rw [if_pos c23] at H
    have c23b0 : (t199 == t202) = true := beq_iff_eq.mpr c23
    have c23b1 : (t199 != t202) = false := bne_eq_false_iff_eq.mpr c23
    clear c23
    have H' := Aside0.mk H
    clear H
    have hcz24_0 : w21.cell? ⟨gb204, 0, none⟩ = some (.int .i64 t201) := (blk_cell BK204.out 0).trans rfl
    have hcz24_1 : w21.cell? ⟨gb204, 1, none⟩ = some (.int .i64 t202) := (blk_cell BK204.out 1).trans rfl
    have hcz24_2 : w21.cell? ⟨gb204, 2, none⟩ = some (.bool t203) := (blk_cell BK204.out 2).trans rfl
    have hfz24_0 := blk_frozen BK204.out 0
    have hfz24_1 := blk_frozen BK204.out 1
    have hfz24_2 := blk_frozen BK204.out 2
    go_wp2
    go_meet
    case rel => exact ⟨_, ((t200 != t203)), (by first | rfl | (simp; done) | (simp [*]; done)), H', ⟨by first | omega | exact Nat.le_refl _⟩, ⟨by (with_reducible repeat (first | apply Kd.R_alloc | apply Kd.R_drewN | apply Kd.R_drew)); exact Kd.R_mono HO196.out (fun _ hk => trivial)⟩, ⟨by (with_reducible repeat (first | refine blk_drewN ?_ _ | refine blk_drew ?_ | refine blk_alloc ?_ _)); exact BK204.out⟩, ⟨by repeat (first | (with_reducible first | exact HB.out | apply below_alloc | apply pw_below_drewN | apply below_drew1 | refine below_set ?_ GE204.out) | exact HB.out)⟩⟩
   ·rw [if_neg c23] at H
    have c23b0 : (t199 == t202) = false := beq_eq_false_iff_ne.mpr c23
    have c23b1 : (t199 != t202) = true := bne_iff_ne.mpr c23
    have H' := Aside0.mk H
    clear H
    have hcz25_0 : w21.cell? ⟨gb204, 0, none⟩ = some (.int .i64 t201) := (blk_cell BK204.out 0).trans rfl
    have hcz25_1 : w21.cell? ⟨gb204, 1, none⟩ = some (.int .i64 t202) := (blk_cell BK204.out 1).trans rfl
    have hcz25_2 : w21.cell? ⟨gb204, 2, none⟩ = some (.bool t203) := (blk_cell BK204.out 2).trans rfl
    have hfz25_0 := blk_frozen BK204.out 0
    have hfz25_1 := blk_frozen BK204.out 1
    have hfz25_2 := blk_frozen BK204.out 2
    go_wp2
    go_meet
    case rel => exact ⟨_, (true), (by first | rfl | (simp; done) | (simp [*]; done)), H', ⟨by first | omega | exact Nat.le_refl _⟩, ⟨by (with_reducible repeat (first | apply Kd.R_alloc | apply Kd.R_drewN | apply Kd.R_drew)); exact Kd.R_mono HO196.out (fun _ hk => trivial)⟩, ⟨by (with_reducible repeat (first | refine blk_drewN ?_ _ | refine blk_drew ?_ | refine blk_alloc ?_ _)); exact BK204.out⟩, ⟨by repeat (first | (with_reducible first | exact HB.out | apply below_alloc | apply pw_below_drewN | apply below_drew1 | refine below_set ?_ GE204.out) | exact HB.out)⟩⟩
  ·rw [if_neg c22] at H
   have c22b0 : (t198 == t201) = false := beq_eq_false_iff_ne.mpr c22
   have c22b1 : (t198 != t201) = true := bne_iff_ne.mpr c22
   (first | rw [c22b0] | rw [c22b1] | (simp only [i64_w, i32_w]; rw [c22b0]) | skip)
   have H' := Aside0.mk H
   clear H
   have hcz26_0 : w21.cell? ⟨gb204, 0, none⟩ = some (.int .i64 t201) := (blk_cell BK204.out 0).trans rfl
   have hcz26_1 : w21.cell? ⟨gb204, 1, none⟩ = some (.int .i64 t202) := (blk_cell BK204.out 1).trans rfl
   have hcz26_2 : w21.cell? ⟨gb204, 2, none⟩ = some (.bool t203) := (blk_cell BK204.out 2).trans rfl
   have hfz26_0 := blk_frozen BK204.out 0
   have hfz26_1 := blk_frozen BK204.out 1
   have hfz26_2 := blk_frozen BK204.out 2
   go_wp2
   go_meet
   case rel => exact ⟨_, (true), (by first | rfl | (simp; done) | (simp [*]; done)), H', ⟨by first | omega | exact Nat.le_refl _⟩, ⟨by (with_reducible repeat (first | apply Kd.R_alloc | apply Kd.R_drewN | apply Kd.R_drew)); exact Kd.R_mono HO196.out (fun _ hk => trivial)⟩, ⟨by (with_reducible repeat (first | refine blk_drewN ?_ _ | refine blk_drew ?_ | refine blk_alloc ?_ _)); exact BK204.out⟩, ⟨by repeat (first | (with_reducible first | exact HB.out | apply below_alloc | apply pw_below_drewN | apply below_drew1 | refine below_set ?_ GE204.out) | exact HB.out)⟩⟩
 case rest =>
  clear HC11
  try clear c1
  try clear c2
  try clear p2
  try clear c4
  try clear c9
  try clear c10
  try clear c14
  try clear c15
  try clear c16
  try clear c17
  try clear c22
  try clear c22b0
  try clear c22b1
  try clear c23
  try clear c23b0
  try clear c23b1
  try clear hcz20_0
  try clear hcz20_1
  try clear hcz20_2
  try clear hcz24_0
  try clear hcz24_1
  try clear hcz24_2
  try clear hcz25_0
  try clear hcz25_1
  try clear hcz25_2
  try clear hcz26_0
  try clear hcz26_1
  try clear hcz26_2
  try clear hfz20_0
  try clear hfz20_1
  try clear hfz20_2
  try clear hfz24_0
  try clear hfz24_1
  try clear hfz24_2
  try clear hfz25_0
  try clear hfz25_1
  try clear hfz25_2
  try clear hfz26_0
  try clear hfz26_1
  try clear hfz26_2
  obtain ⟨kq, x51_10, rfl, HA, HJ10, HO_9, BK204, HB⟩ := hcut
  cases kq with
  | zero => exact absurd HA.out (by simp [isoglosslaw21_LookupTells.j0])
  | succ kj10 =>
   have H := HA.out
   clear HA
   simp only [isoglosslaw21_LookupTells.j0] at H
   by_cases c27 : x51_10 = true
   ·subst c27
    have H1 : (some false) = some r := by rw [if_pos rfl] at H; exact H
    clear H
    have H := H1
    clear H1
    obtain rfl := Option.some.inj H
    go_wp2
    go_ret
    exact ⟨by first | rfl | (simp [errW_none, errW_some] <;> rfl) | (simp [*, errW_none, errW_some] <;> rfl), by repeat (first | (with_reducible first | exact HB.out | apply below_alloc | apply pw_below_drewN | apply below_drew1 | refine below_set ?_ GE204.out) | exact HB.out)⟩
   ·replace c27 := Bool.eq_false_iff.mpr c27
    subst c27
    have H1 : (if t200 = true then (if t190 = true then (if 0 ≤ t199 then (if t199 < (t194.length : Int) then (some (t205.toList == (rdOf ByteArray.empty t194 t199).toList)) else (none)) else (none)) else (some false)) else (if t190 = true then (some (t205.toList == t197.toList)) else (some false))) = some r := by rw [if_neg (show ¬ (false = true) by decide)] at H; exact H
    clear H
    have H := H1
    clear H1
    by_cases c28 : t200 = true
    ·subst c28
     have H1 : (if t190 = true then (if 0 ≤ t199 then (if t199 < (t194.length : Int) then (some (t205.toList == (rdOf ByteArray.empty t194 t199).toList)) else (none)) else (none)) else (some false)) = some r := by rw [if_pos rfl] at H; exact H
     clear H
     have H := H1
     clear H1
     by_cases c29 : t190 = true
     ·subst c29
      have H1 : (if 0 ≤ t199 then (if t199 < (t194.length : Int) then (some (t205.toList == (rdOf ByteArray.empty t194 t199).toList)) else (none)) else (none)) = some r := by rw [if_pos rfl] at H; exact H
      clear H
      have H := H1
      clear H1
      by_cases c30 : 0 ≤ t199
      ·rw [if_pos c30] at H
       have c30b0 : decide (0 ≤ t199) = true := decide_eq_true c30
       clear c30
       by_cases c31 : t199 < (t194.length : Int)
       ·rw [if_pos c31] at H
        have c31b0 : decide (t199 < (t194.length : Int)) = true := decide_eq_true c31
        clear c31
        obtain rfl := Option.some.inj H
        have p206 : 0 ≤ (t199 : Int) := of_decide_eq_true (by first | (with_reducible assumption) | assumption)
        have q206 : t199 < (t194.length : Int) := of_decide_eq_true (by first | (with_reducible assumption) | assumption)
        obtain ⟨ad206, e206, hx206_0⟩ := Kd.at_string (Kd.R_reads' HO_9.out).2.2 t199 p206 q206
        cases e206
        replace p206 := eq_true p206
        replace q206 := eq_true q206
        go_wp2
        go_ret
        exact ⟨by first | rfl | (simp [errW_none, errW_some] <;> rfl) | (simp [*, errW_none, errW_some] <;> rfl), by repeat (first | (with_reducible first | exact HB.out | apply below_alloc | apply pw_below_drewN | apply below_drew1 | refine below_set ?_ GE204.out) | exact HB.out)⟩
       ·rw [if_neg c31] at H
        exact absurd H (by simp)
      ·rw [if_neg c30] at H
       exact absurd H (by simp)
     ·replace c29 := Bool.eq_false_iff.mpr c29
      subst c29
      have H1 : (some false) = some r := by rw [if_neg (show ¬ (false = true) by decide)] at H; exact H
      clear H
      have H := H1
      clear H1
      obtain rfl := Option.some.inj H
      go_wp2
      go_ret
      exact ⟨by first | rfl | (simp [errW_none, errW_some] <;> rfl) | (simp [*, errW_none, errW_some] <;> rfl), by repeat (first | (with_reducible first | exact HB.out | apply below_alloc | apply pw_below_drewN | apply below_drew1 | refine below_set ?_ GE204.out) | exact HB.out)⟩
    ·replace c28 := Bool.eq_false_iff.mpr c28
     subst c28
     have H1 : (if t190 = true then (some (t205.toList == t197.toList)) else (some false)) = some r := by rw [if_neg (show ¬ (false = true) by decide)] at H; exact H
     clear H
     have H := H1
     clear H1
     by_cases c32 : t190 = true
     ·subst c32
      have H1 : (some (t205.toList == t197.toList)) = some r := by rw [if_pos rfl] at H; exact H
      clear H
      have H := H1
      clear H1
      obtain rfl := Option.some.inj H
      go_wp2
      go_ret
      exact ⟨by first | rfl | (simp [errW_none, errW_some] <;> rfl) | (simp [*, errW_none, errW_some] <;> rfl), by repeat (first | (with_reducible first | exact HB.out | apply below_alloc | apply pw_below_drewN | apply below_drew1 | refine below_set ?_ GE204.out) | exact HB.out)⟩
     ·replace c32 := Bool.eq_false_iff.mpr c32
      subst c32
      have H1 : (some false) = some r := by rw [if_neg (show ¬ (false = true) by decide)] at H; exact H
      clear H
      have H := H1
      clear H1
      obtain rfl := Option.some.inj H
      go_wp2
      go_ret
      exact ⟨by first | rfl | (simp [errW_none, errW_some] <;> rfl) | (simp [*, errW_none, errW_some] <;> rfl), by repeat (first | (with_reducible first | exact HB.out | apply below_alloc | apply pw_below_drewN | apply below_drew1 | refine below_set ?_ GE204.out) | exact HB.out)⟩

end Go.Proofs.Ytoigdaioghmlpaa.P
