/- The law RenderBack, walked. No condition. -/
import Derived.Test.YtojglflamecnkaaSq
import Derived.Test.YtojglflamecnkaaHandDoc
import Derived.Test.YtojglflamecnkaaEvRT
import Derived.Test.YtojglflamecnkaaPx16
import Derived.Test.YtojglflamecnkaaPx19
import Derived.Test.YtojglflamecnkaaPx4
namespace Go.Proofs.Ytojglflamecnkaa.P
open Go.RowKit Go.Shelf Go.Proofs.YtojglflamecnkaaW.PrintWords Go.Proofs.YtojglflamecnkaaW.PrintLast Go.Proofs.YtojglflamecnkaaW.PrintMore Go.Proofs.Ytojglflamecnkaa.Iso
set_option linter.unusedVariables false
set_option linter.unusedSimpArgs false
attribute [local go_sem] Oper.semAt_some
theorem low_ps (l : List ByteArray) (h : ∀ s ∈ l, lowOk s = true) : (l.map bl).map low = l.map bl := by
  rw [List.map_map]
  exact List.map_congr_left fun s hs => (of_decide_eq_true (h s hs)).symm
theorem right_low {T : TG} (h : rightT T = true) : low (textT T) = textT T := by
  unfold rightT at h
  have hs : smallT T = true := by
    cases c : smallT T with
    | true => rfl
    | false => rw [c, Bool.false_and] at h; cases h
  unfold textT
  rw [low_joinL, low_ps _ (low_sub hs)]
def rb9_T : Bool × List (List Nat × List Nat) := (true, [([], []), ([0], [0]), ([1], [1]), ([1, 2], [1, 2]), ([3, 1], [3]), ([4], [4]), ([5, 4], [4, 5]), ([6, 4, 4], [4, 6]), ([4], [4]), ([7, 8, 4], [4, 7, 8]), ([4, 9], [4, 9]), ([10, 7], [10]), ([11], [11]), ([12, 11, 11], [11, 12]), ([11], [11]), ([14, 13, 11], [11, 14]), ([13, 15, 11], [11, 13, 15]), ([11, 16], [11, 16]), ([17, 15, 0, 1, 2, 3, 4, 5, 6, 7, 8, 9, 10, 11, 12, 13, 14, 15, 16, 17], [17])])
def rb9_B : List Nat := [0, 1, 3, 7, 15, 31, 63, 127, 31, 511, 1023, 2047, 4095, 8191, 4095, 32767, 65535, 131071, 262143]
theorem rb9_tab : rtab .any (opsOf Try.f6 9) = rb9_T := by kernel_rfl
theorem rb9_bits : waitsOk rb9_T.2 rb9_B = true := by kernel_rfl
set_option maxRecDepth 100000 in
set_option maxHeartbeats 16000000 in
theorem rback_good (s y : ByteArray) (a0 a1 a2 a3 : Int) (A4 : Option Addr) (c4 : Nat) (l4 : List Int) (A5 : Option Addr) (c5 : Nat) (l5 : List Int) (A6 : Option Addr) (c6 : Nat) (l6 : List Int) (a7 : Int) (w : World) (h4 : IntsC w A4 c4 l4) (h5 : IntsC w A5 c5 l5) (h6 : IntsC w A6 c6 l6) (T : TG)
    (AW : ∀ W, Calls Try.prog 9 #[] W fun e W' => e = .returned (.bool true) ∧ Below W.heap.size W W')
    (MD : ∀ W, IntsC W A4 c4 l4 → IntsC W A5 c5 l5 → IntsC W A6 c6 l6 → Calls Try.prog 15 #[.agg #[.int .i64 a0, .int .i64 a1, .int .i64 a2, .int .i64 a3, .slice A4 l4.length c4, .slice A5 l5.length c5, .slice A6 l6.length c6, .int .i64 a7]] W fun e W' => ∃ A1 c1 A4 c4 A5 c5 A6 c6, e = .returned (.agg (tagCells T A1 c1 A4 c4 A5 c5 A6 c6)) ∧ RowsC W' T A1 c1 A4 c4 A5 c5 A6 c6 ∧ Below W.heap.size W W')
    (RI : ∀ W A1 c1 A4 c4 A5 c5 A6 c6, RowsC W T A1 c1 A4 c4 A5 c5 A6 c6 → Calls Try.prog 16 #[.agg (tagCells T A1 c1 A4 c4 A5 c5 A6 c6)] W fun e W' => e = .returned (.bool true) ∧ Below W.heap.size W W')
    (ST : ∀ W A1 c1 A4 c4 A5 c5 A6 c6, RowsC W T A1 c1 A4 c4 A5 c5 A6 c6 → Calls Try.prog 17 #[.agg (tagCells T A1 c1 A4 c4 A5 c5 A6 c6)] W fun e W' => e = .returned (.string s) ∧ Below W.heap.size W W')
    (DC : ∀ W, Calls Try.prog 18 #[.string s] W fun e W' => ∃ A1 c1 A4 c4 A5 c5 A6 c6, e = .returned (.agg #[.string T.lang, .slice A1 T.ext.length c1, .string T.script, .string T.region, .slice A4 T.vars.length c4, .slice A5 T.exts.length c5, .slice A6 T.priv.length c6, .string T.grand, .int .i64 0, .int .i64 0, .string ⟨#[]⟩]) ∧ RowsC W' T A1 c1 A4 c4 A5 c5 A6 c6 ∧ Below W.heap.size W W')
    (LO : ∀ W, Calls Try.prog 12 #[.string s] W fun e W' => e = .returned (.string y) ∧ Below W.heap.size W W')
    (LW : ∀ W A1 c1 A4 c4 A5 c5 A6 c6, RowsC W T A1 c1 A4 c4 A5 c5 A6 c6 → Calls Try.prog 20 #[.agg (tagCells T A1 c1 A4 c4 A5 c5 A6 c6)] W fun e W' => e = .returned (.string y) ∧ Below W.heap.size W W') :
    Calls Try.prog 6 #[.agg #[.int .i64 a0, .int .i64 a1, .int .i64 a2, .int .i64 a3, .slice A4 l4.length c4, .slice A5 l5.length c5, .slice A6 l6.length c6, .int .i64 a7]] w fun e w' => e = .returned (.bool true) ∧ Below w.heap.size w w' := by
  have HS4 := Lib.hid h4
  have HS5 := Lib.hid h5
  have HS6 := Lib.hid h6
  have HAW := Lib.hid AW
  have HMD := Lib.hid MD
  have HRI := Lib.hid RI
  have HST := Lib.hid ST
  have HDC := Lib.hid DC
  have HLO := Lib.hid LO
  have HLW := Lib.hid LW
  have HB1 := Lib.hid (below_alloc (Below.refl w.heap.size w) (.cells #[.int .i64 a0, .int .i64 a1, .int .i64 a2, .int .i64 a3, .slice A4 l4.length c4, .slice A5 l5.length c5, .slice A6 l6.length c6, .int .i64 a7] 31))
  have K1 := Lib.hid (new_blk w (.cells #[.int .i64 a0, .int .i64 a1, .int .i64 a2, .int .i64 a3, .slice A4 l4.length c4, .slice A5 l5.length c5, .slice A6 l6.length c6, .int .i64 a7] 31))
  clear h4 h5 h6 AW MD RI ST DC LO LW
  go_enter Try.func6, Try.ntmps6
  go_upto_region 9 with (first
    | (go_at_call 9; refine (HAW.out _).mono ?_; rintro e w2 ⟨rfl, hb⟩; have HB2 := Lib.hid (below_step HB1.out hb); obtain ⟨q0, q1, q2, q3, q4, q5, q6, q7⟩ := cells8p (blk_on K1.out hb); clear hb HB1 K1 HAW)
    | (go_at_call 15; refine (HMD.out _ (HS4.out.below HB2.out) (HS5.out.below HB2.out) (HS6.out.below HB2.out)).mono ?_; rintro e w3 ⟨B_1, B_c1, B_4, B_c4, B_5, B_c5, B_6, B_c6, rfl, hR, hb⟩; have HB3 := Lib.hid (below_step HB2.out hb); have RT3 := Lib.hid hR; clear q0 q1 q2 q3 q4 q5 q6 q7 hb hR HB2 HS4 HS5 HS6 HMD; obtain ⟨q0, q1, q2, q3, q4, q5, q6, q7⟩ := cells8p (new_blk w3 (.cells #[.string T.lang, .slice B_1 T.ext.length B_c1, .string T.script, .string T.region, .slice B_4 T.vars.length B_c4, .slice B_5 T.exts.length B_c5, .slice B_6 T.priv.length B_c6, .string T.grand] 34)))
    | (go_at_call 16; refine (HRI.out _ _ _ _ _ _ _ _ _ (RT3.out.below (below_alloc (Below.refl _ _) _))).mono ?_; rintro e w4 ⟨rfl, hb⟩; have HB4 := Lib.hid (below_step (below_alloc HB3.out _) hb); have RT4 := Lib.hid ((RT3.out.below (below_alloc (Below.refl _ _) (.cells #[.string T.lang, .slice B_1 T.ext.length B_c1, .string T.script, .string T.region, .slice B_4 T.vars.length B_c4, .slice B_5 T.exts.length B_c5, .slice B_6 T.priv.length B_c6, .string T.grand] 34))).below hb); have KT4 := Lib.hid (blk_on (new_blk w3 (.cells #[.string T.lang, .slice B_1 T.ext.length B_c1, .string T.script, .string T.region, .slice B_4 T.vars.length B_c4, .slice B_5 T.exts.length B_c5, .slice B_6 T.priv.length B_c6, .string T.grand] 34)) hb); clear q0 q1 q2 q3 q4 q5 q6 q7; obtain ⟨q0, q1, q2, q3, q4, q5, q6, q7⟩ := cells8p KT4.out; clear hb HB3 RT3 HRI)
    | (go_at_call 17; refine (HST.out _ _ _ _ _ _ _ _ _ RT4.out).mono ?_; rintro e w5 ⟨rfl, hb⟩; have HB5 := Lib.hid (below_step HB4.out hb); have RT5 := Lib.hid (RT4.out.below hb); have KT5 := Lib.hid (blk_on KT4.out hb); clear q0 q1 q2 q3 q4 q5 q6 q7 hb HB4 RT4 KT4)
    | (go_at_call 18; refine (HDC.out _).mono ?_; rintro e w6 ⟨V_1, V_c1, V_4, V_c4, V_5, V_c5, V_6, V_c6, rfl, hR, hb⟩; have HB6 := Lib.hid (below_step HB5.out hb); have RT6 := Lib.hid (RT5.out.below hb); have RV6 := Lib.hid hR; have KT6 := Lib.hid (blk_on KT5.out hb); clear hb hR HB5 RT5 KT5 HDC; obtain ⟨q0, q1, q2, q3, q4, q5, q6, q7⟩ := cells8o KT6.out (.cells #[.string T.lang, .slice V_1 T.ext.length V_c1, .string T.script, .string T.region, .slice V_4 T.vars.length V_c4, .slice V_5 T.exts.length V_c5, .slice V_6 T.priv.length V_c6, .string T.grand, .int .i64 0, .int .i64 0, .string ⟨#[]⟩] 40); obtain ⟨⟨k0, k1, k2, k3, k4, k5, k6, k7, k8, k9, k10⟩, -⟩ := cells11p (new_blk w6 (.cells #[.string T.lang, .slice V_1 T.ext.length V_c1, .string T.script, .string T.region, .slice V_4 T.vars.length V_c4, .slice V_5 T.exts.length V_c5, .slice V_6 T.priv.length V_c6, .string T.grand, .int .i64 0, .int .i64 0, .string ⟨#[]⟩] 40)))
    | (go_at_call 19; refine (same_calls (RV6.out.below (below_alloc (Below.refl _ _) _)) (RT6.out.below (below_alloc (Below.refl _ _) _))).mono ?_; rw [sameT_refl]; rintro e w7 ⟨rfl, hb⟩; have HB7 := Lib.hid (below_step (below_alloc HB6.out _) hb); have RT7 := Lib.hid ((RT6.out.below (below_alloc (Below.refl _ _) (.cells #[.string T.lang, .slice V_1 T.ext.length V_c1, .string T.script, .string T.region, .slice V_4 T.vars.length V_c4, .slice V_5 T.exts.length V_c5, .slice V_6 T.priv.length V_c6, .string T.grand, .int .i64 0, .int .i64 0, .string ⟨#[]⟩] 40))).below hb); have RV7 := Lib.hid ((RV6.out.below (below_alloc (Below.refl _ _) (.cells #[.string T.lang, .slice V_1 T.ext.length V_c1, .string T.script, .string T.region, .slice V_4 T.vars.length V_c4, .slice V_5 T.exts.length V_c5, .slice V_6 T.priv.length V_c6, .string T.grand, .int .i64 0, .int .i64 0, .string ⟨#[]⟩] 40))).below hb); have KT7 := Lib.hid (blk_on (blk_alloc1 KT6.out (.cells #[.string T.lang, .slice V_1 T.ext.length V_c1, .string T.script, .string T.region, .slice V_4 T.vars.length V_c4, .slice V_5 T.exts.length V_c5, .slice V_6 T.priv.length V_c6, .string T.grand, .int .i64 0, .int .i64 0, .string ⟨#[]⟩] 40)) hb); have KG7 := Lib.hid (blk_on (new_blk w6 (.cells #[.string T.lang, .slice V_1 T.ext.length V_c1, .string T.script, .string T.region, .slice V_4 T.vars.length V_c4, .slice V_5 T.exts.length V_c5, .slice V_6 T.priv.length V_c6, .string T.grand, .int .i64 0, .int .i64 0, .string ⟨#[]⟩] 40)) hb); clear q0 q1 q2 q3 q4 q5 q6 q7 k0 k1 k2 k3 k4 k5 k6 k7 k8 k9 k10 hb HB6 RT6 RV6 KT6))
  have EQ := Lib.hid (fun (w' : World) (h : Below w7.heap.size w7 w') => (⟨pw_cell_below h ((blk_cell KG7.out 0).trans rfl), pw_cell_below h ((blk_cell KG7.out 1).trans rfl), pw_cell_below h ((blk_cell KG7.out 2).trans rfl), pw_cell_below h ((blk_cell KG7.out 3).trans rfl), pw_cell_below h ((blk_cell KG7.out 4).trans rfl), pw_cell_below h ((blk_cell KG7.out 5).trans rfl), pw_cell_below h ((blk_cell KG7.out 6).trans rfl), pw_cell_below h ((blk_cell KG7.out 7).trans rfl), pw_cell_below h ((blk_cell KT7.out 0).trans rfl), pw_cell_below h ((blk_cell KT7.out 1).trans rfl), pw_cell_below h ((blk_cell KT7.out 2).trans rfl), pw_cell_below h ((blk_cell KT7.out 3).trans rfl), pw_cell_below h ((blk_cell KT7.out 4).trans rfl), pw_cell_below h ((blk_cell KT7.out 5).trans rfl), pw_cell_below h ((blk_cell KT7.out 6).trans rfl), pw_cell_below h ((blk_cell KT7.out 7).trans rfl)⟩ : w'.cell? ⟨w6.heap.size, 0, none⟩ = some (.string T.lang) ∧ w'.cell? ⟨w6.heap.size, 1, none⟩ = some (.slice V_1 T.ext.length V_c1) ∧ w'.cell? ⟨w6.heap.size, 2, none⟩ = some (.string T.script) ∧ w'.cell? ⟨w6.heap.size, 3, none⟩ = some (.string T.region) ∧ w'.cell? ⟨w6.heap.size, 4, none⟩ = some (.slice V_4 T.vars.length V_c4) ∧ w'.cell? ⟨w6.heap.size, 5, none⟩ = some (.slice V_5 T.exts.length V_c5) ∧ w'.cell? ⟨w6.heap.size, 6, none⟩ = some (.slice V_6 T.priv.length V_c6) ∧ w'.cell? ⟨w6.heap.size, 7, none⟩ = some (.string T.grand) ∧ w'.cell? ⟨w3.heap.size, 0, none⟩ = some (.string T.lang) ∧ w'.cell? ⟨w3.heap.size, 1, none⟩ = some (.slice B_1 T.ext.length B_c1) ∧ w'.cell? ⟨w3.heap.size, 2, none⟩ = some (.string T.script) ∧ w'.cell? ⟨w3.heap.size, 3, none⟩ = some (.string T.region) ∧ w'.cell? ⟨w3.heap.size, 4, none⟩ = some (.slice B_4 T.vars.length B_c4) ∧ w'.cell? ⟨w3.heap.size, 5, none⟩ = some (.slice B_5 T.exts.length B_c5) ∧ w'.cell? ⟨w3.heap.size, 6, none⟩ = some (.slice B_6 T.priv.length B_c6) ∧ w'.cell? ⟨w3.heap.size, 7, none⟩ = some (.string T.grand)))
  have Y0 := Lib.hid (Below.refl w7.heap.size w7)
  have b4 : (s.toList == s.toList) = true := beq_self_eq_true _
  have b5 : (y.toList == y.toList) = true := beq_self_eq_true _
  refine start_ (n := 19) (S := fun w' => w'.cell? ⟨w6.heap.size, 0, none⟩ = some (.string T.lang) ∧ w'.cell? ⟨w6.heap.size, 1, none⟩ = some (.slice V_1 T.ext.length V_c1) ∧ w'.cell? ⟨w6.heap.size, 2, none⟩ = some (.string T.script) ∧ w'.cell? ⟨w6.heap.size, 3, none⟩ = some (.string T.region) ∧ w'.cell? ⟨w6.heap.size, 4, none⟩ = some (.slice V_4 T.vars.length V_c4) ∧ w'.cell? ⟨w6.heap.size, 5, none⟩ = some (.slice V_5 T.exts.length V_c5) ∧ w'.cell? ⟨w6.heap.size, 6, none⟩ = some (.slice V_6 T.priv.length V_c6) ∧ w'.cell? ⟨w6.heap.size, 7, none⟩ = some (.string T.grand) ∧ w'.cell? ⟨w3.heap.size, 0, none⟩ = some (.string T.lang) ∧ w'.cell? ⟨w3.heap.size, 1, none⟩ = some (.slice B_1 T.ext.length B_c1) ∧ w'.cell? ⟨w3.heap.size, 2, none⟩ = some (.string T.script) ∧ w'.cell? ⟨w3.heap.size, 3, none⟩ = some (.string T.region) ∧ w'.cell? ⟨w3.heap.size, 4, none⟩ = some (.slice B_4 T.vars.length B_c4) ∧ w'.cell? ⟨w3.heap.size, 5, none⟩ = some (.slice B_5 T.exts.length B_c5) ∧ w'.cell? ⟨w3.heap.size, 6, none⟩ = some (.slice B_6 T.priv.length B_c6) ∧ w'.cell? ⟨w3.heap.size, 7, none⟩ = some (.string T.grand)) (ds := []) #[false, false, false, false, false, false, false, false, false, false, false, false, false, false, false, false, false, false, false] (by kernel_rfl) rfl rfl (EQ.out _ (below_drew Y0.out)) (fun hHeld => ?_); refine with_tabW rb9_tab rb9_bits (fun HT_ HW_ => ?_)
  refine pu_ (i := 0) (N := some 25) HT_ (bl_ 19 1) ?_
  refine pu_ (i := 1) (N := some 26) HT_ (bl_ 19 3) ?_
  refine pu_ (i := 2) (N := some 27) HT_ (bl_ 19 7) ?_
  refine pu_ (i := 3) (N := some 28) HT_ (bl_ 19 15) ?_
  refine pu_ (i := 4) (N := some 29) HT_ (bl_ 19 31) ?_
  refine pu_ (i := 5) (N := some 30) HT_ (bl_ 19 63) ?_
  refine tk_ (i := 6) (N := some 31) HT_ HW_ (bl_ 19 127) hHeld ?_ (hy := by rintro w' ⟨s0, s1, s2, s3, s4, s5, s6, s7, s8, s9, s10, s11, s12, s13, s14, s15⟩; go_simp; with_reducible rfl)
  refine pu_ (i := 8) (N := some 33) HT_ (bl_ 19 383) ?_
  refine on_ (i := 7) (N := some 32) HT_ (bl_ 19 511) rfl rfl (fun K hK => ?_)
  refine gs_ Try.func17 #[.agg #[.string T.lang, .slice V_1 T.ext.length V_c1, .string T.script, .string T.region, .slice V_4 T.vars.length V_c4, .slice V_5 T.exts.length V_c5, .slice V_6 T.priv.length V_c6, .string T.grand]] ?_
  refine (HST.out _ _ _ _ _ _ _ _ _ (RV7.out.below (below_drew Y0.out))).mono ?_
  rintro e w8 ⟨rfl, hb⟩
  have Y1 := Lib.hid (below_step (below_drew Y0.out) hb)
  clear hb
  refine ⟨_, rfl, ?_⟩
  refine hK.out _ _ (EQ.out _ Y1.out) (fun hHeld => ?_)
  clear hK K
  refine nm_ (some 32) ?_
  refine pu_ (i := 9) (N := some 34) HT_ (bl_ 19 1023) ?_
  refine pu_ (i := 10) (N := some 35) HT_ (bl_ 19 2047) ?_
  refine pu_ (i := 11) (N := some 36) HT_ (bl_ 19 4095) ?_
  refine pu_ (i := 12) (N := some 37) HT_ (bl_ 19 8191) ?_
  refine tk_ (i := 14) (N := some 39) HT_ HW_ (bl_ 19 24575) hHeld ?_ (hy := by rintro w' ⟨s0, s1, s2, s3, s4, s5, s6, s7, s8, s9, s10, s11, s12, s13, s14, s15⟩; go_simp; with_reducible rfl)
  refine on_ (i := 13) (N := some 38) HT_ (bl_ 19 32767) rfl rfl (fun K hK => ?_)
  refine gs_ Try.func12 #[.string s] ?_
  refine (HLO.out _).mono ?_
  rintro e w9 ⟨rfl, hb⟩
  have Y2 := Lib.hid (below_step Y1.out hb)
  clear hb
  refine ⟨_, rfl, ?_⟩
  refine hK.out _ _ (EQ.out _ Y2.out) (fun hHeld => ?_)
  clear hK K
  refine nm_ (some 38) ?_
  refine on_ (i := 15) (N := some 40) HT_ (bl_ 19 65535) rfl rfl (fun K hK => ?_)
  refine gs_ Try.func20 #[.agg #[.string T.lang, .slice B_1 T.ext.length B_c1, .string T.script, .string T.region, .slice B_4 T.vars.length B_c4, .slice B_5 T.exts.length B_c5, .slice B_6 T.priv.length B_c6, .string T.grand]] ?_
  refine (HLW.out _ _ _ _ _ _ _ _ _ (RT7.out.below Y2.out)).mono ?_
  rintro e w10 ⟨rfl, hb⟩
  have Y3 := Lib.hid (below_step Y2.out hb)
  clear hb
  refine ⟨_, rfl, ?_⟩
  refine hK.out _ _ (EQ.out _ Y3.out) (fun hHeld => ?_)
  clear hK K
  refine nm_ (some 40) ?_
  refine pu_ (i := 16) (N := some 41) HT_ (bl_ 19 131071) ?_
  refine pu_ (i := 17) (N := some 42) HT_ (bl_ 19 262143) ?_
  refine pu_ (i := 18) (N := some 2) HT_ (bl_ 19 524287) ?_
  refine done_ (done_of HT_.out (by kernel_rfl)) ?_
  have HB8 := Lib.hid (below_step HB7.out Y3.out)
  go_wp2
  go_ret
  exact ⟨rfl, HB8.out⟩
set_option maxRecDepth 100000 in
set_option maxHeartbeats 16000000 in
theorem rback_bad (s y : ByteArray) (a0 a1 a2 a3 : Int) (A4 : Option Addr) (c4 : Nat) (l4 : List Int) (A5 : Option Addr) (c5 : Nat) (l5 : List Int) (A6 : Option Addr) (c6 : Nat) (l6 : List Int) (a7 : Int) (w : World) (h4 : IntsC w A4 c4 l4) (h5 : IntsC w A5 c5 l5) (h6 : IntsC w A6 c6 l6) (T : TG)
    (AW : ∀ W, Calls Try.prog 9 #[] W fun e W' => e = .returned (.bool true) ∧ Below W.heap.size W W')
    (MD : ∀ W, IntsC W A4 c4 l4 → IntsC W A5 c5 l5 → IntsC W A6 c6 l6 → Calls Try.prog 15 #[.agg #[.int .i64 a0, .int .i64 a1, .int .i64 a2, .int .i64 a3, .slice A4 l4.length c4, .slice A5 l5.length c5, .slice A6 l6.length c6, .int .i64 a7]] W fun e W' => ∃ A1 c1 A4 c4 A5 c5 A6 c6, e = .returned (.agg (tagCells T A1 c1 A4 c4 A5 c5 A6 c6)) ∧ RowsC W' T A1 c1 A4 c4 A5 c5 A6 c6 ∧ Below W.heap.size W W')
    (RI : ∀ W A1 c1 A4 c4 A5 c5 A6 c6, RowsC W T A1 c1 A4 c4 A5 c5 A6 c6 → Calls Try.prog 16 #[.agg (tagCells T A1 c1 A4 c4 A5 c5 A6 c6)] W fun e W' => e = .returned (.bool false) ∧ Below W.heap.size W W') :
    Calls Try.prog 6 #[.agg #[.int .i64 a0, .int .i64 a1, .int .i64 a2, .int .i64 a3, .slice A4 l4.length c4, .slice A5 l5.length c5, .slice A6 l6.length c6, .int .i64 a7]] w fun e w' => e = .returned (.bool true) ∧ Below w.heap.size w w' := by
  have HS4 := Lib.hid h4
  have HS5 := Lib.hid h5
  have HS6 := Lib.hid h6
  have HAW := Lib.hid AW
  have HMD := Lib.hid MD
  have HRI := Lib.hid RI
  have HB1 := Lib.hid (below_alloc (Below.refl w.heap.size w) (.cells #[.int .i64 a0, .int .i64 a1, .int .i64 a2, .int .i64 a3, .slice A4 l4.length c4, .slice A5 l5.length c5, .slice A6 l6.length c6, .int .i64 a7] 31))
  have K1 := Lib.hid (new_blk w (.cells #[.int .i64 a0, .int .i64 a1, .int .i64 a2, .int .i64 a3, .slice A4 l4.length c4, .slice A5 l5.length c5, .slice A6 l6.length c6, .int .i64 a7] 31))
  clear h4 h5 h6 AW MD RI
  go_enter Try.func6, Try.ntmps6
  go_wp2_with (first
    | (go_at_call 9; refine (HAW.out _).mono ?_; rintro e w2 ⟨rfl, hb⟩; have HB2 := Lib.hid (below_step HB1.out hb); obtain ⟨q0, q1, q2, q3, q4, q5, q6, q7⟩ := cells8p (blk_on K1.out hb); clear hb HB1 K1 HAW)
    | (go_at_call 15; refine (HMD.out _ (HS4.out.below HB2.out) (HS5.out.below HB2.out) (HS6.out.below HB2.out)).mono ?_; rintro e w3 ⟨B_1, B_c1, B_4, B_c4, B_5, B_c5, B_6, B_c6, rfl, hR, hb⟩; have HB3 := Lib.hid (below_step HB2.out hb); have RT3 := Lib.hid hR; clear q0 q1 q2 q3 q4 q5 q6 q7 hb hR HB2 HS4 HS5 HS6 HMD; obtain ⟨q0, q1, q2, q3, q4, q5, q6, q7⟩ := cells8p (new_blk w3 (.cells #[.string T.lang, .slice B_1 T.ext.length B_c1, .string T.script, .string T.region, .slice B_4 T.vars.length B_c4, .slice B_5 T.exts.length B_c5, .slice B_6 T.priv.length B_c6, .string T.grand] 34)))
    | (go_at_call 16; refine (HRI.out _ _ _ _ _ _ _ _ _ (RT3.out.below (below_alloc (Below.refl _ _) _))).mono ?_; rintro e w4 ⟨rfl, hb⟩; have HB4 := Lib.hid (below_step (below_alloc HB3.out _) hb); have RT4 := Lib.hid ((RT3.out.below (below_alloc (Below.refl _ _) (.cells #[.string T.lang, .slice B_1 T.ext.length B_c1, .string T.script, .string T.region, .slice B_4 T.vars.length B_c4, .slice B_5 T.exts.length B_c5, .slice B_6 T.priv.length B_c6, .string T.grand] 34))).below hb); have KT4 := Lib.hid (blk_on (new_blk w3 (.cells #[.string T.lang, .slice B_1 T.ext.length B_c1, .string T.script, .string T.region, .slice B_4 T.vars.length B_c4, .slice B_5 T.exts.length B_c5, .slice B_6 T.priv.length B_c6, .string T.grand] 34)) hb); clear q0 q1 q2 q3 q4 q5 q6 q7; obtain ⟨q0, q1, q2, q3, q4, q5, q6, q7⟩ := cells8p KT4.out; clear hb HB3 RT3 HRI))
  go_ret
  exact ⟨rfl, HB4.out⟩
theorem RenderBack_calls (a0 a1 a2 a3 : Int) (A4 : Option Addr) (c4 : Nat) (l4 : List Int) (A5 : Option Addr) (c5 : Nat) (l5 : List Int) (A6 : Option Addr) (c6 : Nat) (l6 : List Int) (a7 : Int) (w : World) (h4 : IntsC w A4 c4 l4) (h5 : IntsC w A5 c5 l5) (h6 : IntsC w A6 c6 l6) :
    Calls Try.prog 6 #[.agg #[.int .i64 a0, .int .i64 a1, .int .i64 a2, .int .i64 a3, .slice A4 l4.length c4, .slice A5 l5.length c5, .slice A6 l6.length c6, .int .i64 a7]] w fun e w' => e = .returned (.bool true) ∧ Below w.heap.size w w' := by
  obtain ⟨B, hB, MD0⟩ := made_calls a0 a1 a2 a3 l4 l5 l6 a7
  have hf : FewS (spoiltT B (oddN a7)) := hB.fewS (oddN a7)
  have ht : TxtS (spoiltT B (oddN a7)) := baseT_txtS hB (oddN a7)
  have hm : Small (spoiltT B (oddN a7)) := base_small hB (oddN a7)
  generalize spoiltT B (oddN a7) = T at MD0 hf ht hm
  have hx : (textT T).length ≤ 1300 := hm.text ht
  have hsub : ∀ s ∈ subsT T, s.size ≤ 1000000 := fun s hs => by
    have hs2 : s ∈ subsL T.lang T.ext T.script T.region T.vars T.exts T.priv T.grand := hs
    unfold subsL at hs2
    split at hs2
    · have := ht.sub s hs2; omega
    · obtain ⟨q, hq, rfl⟩ := List.mem_map.1 hs2
      have h1 := sp_small (bl T.grand) [] q (by rw [← split_sp]; exact hq)
      rw [bl_len] at h1
      have := ht.grand
      rw [mk_size]
      simp only [List.length_nil] at h1
      omega
  obtain ⟨k, hk⟩ := (right_ev T hf ht (by omega) hsub).rounds
  have AW : ∀ W, Calls Try.prog 9 #[] W fun e W' => e = .returned (.bool true) ∧ Below W.heap.size W W' := fun W => isoglosslaw08_awake.calls true W law08_awake_eq
  have MD : ∀ W, IntsC W A4 c4 l4 → IntsC W A5 c5 l5 → IntsC W A6 c6 l6 → Calls Try.prog 15 #[.agg #[.int .i64 a0, .int .i64 a1, .int .i64 a2, .int .i64 a3, .slice A4 l4.length c4, .slice A5 l5.length c5, .slice A6 l6.length c6, .int .i64 a7]] W fun e W' => ∃ A1 c1 A4 c4 A5 c5 A6 c6, e = .returned (.agg (tagCells T A1 c1 A4 c4 A5 c5 A6 c6)) ∧ RowsC W' T A1 c1 A4 c4 A5 c5 A6 c6 ∧ Below W.heap.size W W' := fun W i4 i5 i6 => MD0 A4 c4 A5 c5 A6 c6 W i4 i5 i6
  have RI : ∀ W A1 c1 A4 c4 A5 c5 A6 c6, RowsC W T A1 c1 A4 c4 A5 c5 A6 c6 → Calls Try.prog 16 #[.agg (tagCells T A1 c1 A4 c4 A5 c5 A6 c6)] W fun e W' => e = .returned (.bool (rightT T)) ∧ Below W.heap.size W W' := fun W A1 c1 A4 c4 A5 c5 A6 c6 h =>
    r6_Right.calls k _ _ _ _ _ _ _ _ _ _ _ _ _ _ _ _ _ W h.1.1 h.1.2 h.2.1.1 h.2.1.2 h.2.2.1.1 h.2.2.1.2 h.2.2.2.1 h.2.2.2.2 hk
  cases c : rightT T with
  | false =>
    rw [c] at RI
    exact rback_bad ⟨#[]⟩ ⟨#[]⟩ a0 a1 a2 a3 A4 c4 l4 A5 c5 l5 A6 c6 l6 a7 w h4 h5 h6 T AW MD RI
  | true =>
    rw [c] at RI
    have hl := right_low c
    have hp : parseR (mk (caseS (textT T))) = .good T := (parseR_low (by rw [bl_mk, bl_mk, caseS_low])).trans (right_parse c)
    have hz : (mk (caseS (textT T))).size ≤ 900000 := by rw [mk_size, caseS_length]; omega
    refine rback_good (mk (caseS (textT T))) (mk (textT T)) a0 a1 a2 a3 A4 c4 l4 A5 c5 l5 A6 c6 l6 a7 w h4 h5 h6 T AW MD RI ?_ ?_ ?_ ?_
    · intro W A1 c1 A4 c4 A5 c5 A6 c6 h
      exact render_String.calls _ _ _ _ _ _ _ _ _ _ _ _ _ _ _ _ _ W h.1.1 h.1.2 h.2.1.1 h.2.1.2 h.2.2.1.1 h.2.2.1.2 h.2.2.2.1 h.2.2.2.2 (string_eq hf ht)
    · intro W
      refine (doc_calls _ hz W).mono ?_
      rintro e W' ⟨hb, h⟩
      rw [hp] at h
      obtain ⟨A1, c1, A4, c4, A5, c5, A6, c6, rfl, hR, -⟩ := h
      exact ⟨A1, c1, A4, c4, A5, c5, A6, c6, rfl, hR, hb⟩
    · intro W
      have := lower02_calls (mk (caseS (textT T))) (by omega) W
      rw [bl_mk, caseS_low, hl] at this
      exact this
    · intro W A1 c1 A4 c4 A5 c5 A6 c6 h
      exact render_Lower.calls _ _ _ _ _ _ _ _ _ _ _ _ _ _ _ _ _ W h.1.1 h.1.2 h.2.1.1 h.2.1.2 h.2.2.1.1 h.2.2.1.2 h.2.2.2.1 h.2.2.2.2 (lower_eq hf ht)
def isoglosslaw08_RenderBack.f (k : Nat) (a0 a1 a2 a3 : Int) (l4 l5 l6 : List Int) (a7 : Int) : Option Bool := some true
theorem isoglosslaw08_RenderBack.calls (k : Nat) (a0 a1 a2 a3 : Int) (A4 : Option Addr) (c4 : Nat) (l4 : List Int) (A5 : Option Addr) (c5 : Nat) (l5 : List Int) (A6 : Option Addr) (c6 : Nat) (l6 : List Int) (a7 : Int) (r : Bool) (w : World) (h4 : Kd.C (Kd.int .i64) w A4 l4.length l4) (g4 : l4.length ≤ c4) (h5 : Kd.C (Kd.int .i64) w A5 l5.length l5) (g5 : l5.length ≤ c5) (h6 : Kd.C (Kd.int .i64) w A6 l6.length l6) (g6 : l6.length ≤ c6) (h : isoglosslaw08_RenderBack.f k a0 a1 a2 a3 l4 l5 l6 a7 = some r) :
    Calls Try.prog 6 #[.agg #[.int .i64 a0, .int .i64 a1, .int .i64 a2, .int .i64 a3, .slice A4 l4.length c4, .slice A5 l5.length c5, .slice A6 l6.length c6, .int .i64 a7]] w fun e w' => e = .returned (.bool r) ∧ Below w.heap.size w w' := by
  obtain rfl := Option.some.inj h
  exact RenderBack_calls a0 a1 a2 a3 A4 c4 l4 A5 c5 l5 A6 c6 l6 a7 w ⟨h4, g4⟩ ⟨h5, g5⟩ ⟨h6, g6⟩
end Go.Proofs.Ytojglflamecnkaa.P
