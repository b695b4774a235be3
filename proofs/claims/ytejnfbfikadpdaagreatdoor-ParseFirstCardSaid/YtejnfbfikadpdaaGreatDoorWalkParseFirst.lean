/- The law ParseFirst, walked. Condition: the error's variable and the names. -/
import Derived.Test.YtejnfbfikadpdaaGreatDoorHandLaw
import Derived.Test.YtejnfbfikadpdaaGreatDoorHandRec
import Derived.Test.YtejnfbfikadpdaaGreatDoorHandFirst7
import Derived.Test.YtejnfbfikadpdaaGreatDoorHandDo1
import Derived.Test.YtejnfbfikadpdaaGreatDoorPx10
namespace Go.Proofs.YtejnfbfikadpdaaGreatDoor.P
open Go.RowKit Go.Shelf Go.Proofs.YtejnfbfikadpdaaGreatDoorW.PrintWords Go.Proofs.YtejnfbfikadpdaaGreatDoorW.PrintLast Go.Proofs.YtejnfbfikadpdaaGreatDoorW.PrintMore Go.Proofs.YtejnfbfikadpdaaGreatDoor.Iso
set_option linter.unusedVariables false
set_option linter.unusedSimpArgs false
attribute [local go_sem] Oper.semAt_some
set_option maxRecDepth 100000 in
set_option maxHeartbeats 16000000 in
theorem first_calls (s : ByteArray) (hs : s.size ≤ 900000) (w : World) (hG : Given w) : Calls Tryz.prog 30 #[.string s] w fun e w' => e = .returned (.bool true) ∧ Below w.heap.size w w' := by
  have HPF := Lib.hid (fun W hN => First_calls s hs W hN)
  have HDF := Lib.hid (fun W => First07_calls s hs W)
  rw [first_same s] at HDF
  obtain ⟨⟨U, y⟩, hR⟩ : ∃ R, R = firstN (split (bl s)) s (split (bl s)).length := ⟨_, rfl⟩
  rw [← hR] at HPF HDF
  have HG := Lib.hid hG
  have HB0 := Lib.hid (Below.refl w.heap.size w)
  clear hG hs hR
  dsimp only at HPF HDF
  go_enter Tryz.func30, Tryz.ntmps30
  go_upto_region 4 with (first
    | (go_at_call 63; refine (HPF.out _ (HG.out.below HB0.out).names).mono ?_; rintro e w2 ⟨U_1, U_c1, U_4, U_c4, U_5, U_c5, U_6, U_c6, rfl, hR, hb⟩; have HB2 := Lib.hid (below_step HB0.out hb); have RT2 := Lib.hid hR; have TN := Lib.hid (new_blk w2 (.cells #[.string U.lang, .slice U_1 U.ext.length U_c1, .string U.script, .string U.region, .slice U_4 U.vars.length U_c4, .slice U_5 U.exts.length U_c5, .slice U_6 U.priv.length U_c6, .string U.grand] 29)); clear hb hR HB0 HPF)
    | (go_at_call 64; refine (HDF.out _).mono ?_; rintro e w3 ⟨V_1, V_c1, V_4, V_c4, V_5, V_c5, V_6, V_c6, rfl, hR, hb⟩; have HB3 := Lib.hid (below_step (below_alloc HB2.out (.cells #[.string U.lang, .slice U_1 U.ext.length U_c1, .string U.script, .string U.region, .slice U_4 U.vars.length U_c4, .slice U_5 U.exts.length U_c5, .slice U_6 U.priv.length U_c6, .string U.grand] 29)) hb); have RT3 := Lib.hid ((RT2.out.below (below_alloc (Below.refl _ _) (.cells #[.string U.lang, .slice U_1 U.ext.length U_c1, .string U.script, .string U.region, .slice U_4 U.vars.length U_c4, .slice U_5 U.exts.length U_c5, .slice U_6 U.priv.length U_c6, .string U.grand] 29))).below hb); have TN3 := Lib.hid (blk_on TN.out hb); have RV3 := Lib.hid hR; obtain ⟨q0, q1, q2, q3, q4, q5, q6, q7⟩ := cells8o TN3.out (.cells #[.string U.lang, .slice V_1 U.ext.length V_c1, .string U.script, .string U.region, .slice V_4 U.vars.length V_c4, .slice V_5 U.exts.length V_c5, .slice V_6 U.priv.length V_c6, .string U.grand, .string y] 103); have k0 : (w3.alloc (.cells #[.string U.lang, .slice V_1 U.ext.length V_c1, .string U.script, .string U.region, .slice V_4 U.vars.length V_c4, .slice V_5 U.exts.length V_c5, .slice V_6 U.priv.length V_c6, .string U.grand, .string y] 103)).cell? ⟨w3.heap.size, 0, none⟩ = some _ := (blk_cell (new_blk w3 (.cells #[.string U.lang, .slice V_1 U.ext.length V_c1, .string U.script, .string U.region, .slice V_4 U.vars.length V_c4, .slice V_5 U.exts.length V_c5, .slice V_6 U.priv.length V_c6, .string U.grand, .string y] 103)) 0).trans rfl; have k1 : (w3.alloc (.cells #[.string U.lang, .slice V_1 U.ext.length V_c1, .string U.script, .string U.region, .slice V_4 U.vars.length V_c4, .slice V_5 U.exts.length V_c5, .slice V_6 U.priv.length V_c6, .string U.grand, .string y] 103)).cell? ⟨w3.heap.size, 1, none⟩ = some _ := (blk_cell (new_blk w3 (.cells #[.string U.lang, .slice V_1 U.ext.length V_c1, .string U.script, .string U.region, .slice V_4 U.vars.length V_c4, .slice V_5 U.exts.length V_c5, .slice V_6 U.priv.length V_c6, .string U.grand, .string y] 103)) 1).trans rfl; have k2 : (w3.alloc (.cells #[.string U.lang, .slice V_1 U.ext.length V_c1, .string U.script, .string U.region, .slice V_4 U.vars.length V_c4, .slice V_5 U.exts.length V_c5, .slice V_6 U.priv.length V_c6, .string U.grand, .string y] 103)).cell? ⟨w3.heap.size, 2, none⟩ = some _ := (blk_cell (new_blk w3 (.cells #[.string U.lang, .slice V_1 U.ext.length V_c1, .string U.script, .string U.region, .slice V_4 U.vars.length V_c4, .slice V_5 U.exts.length V_c5, .slice V_6 U.priv.length V_c6, .string U.grand, .string y] 103)) 2).trans rfl; have k3 : (w3.alloc (.cells #[.string U.lang, .slice V_1 U.ext.length V_c1, .string U.script, .string U.region, .slice V_4 U.vars.length V_c4, .slice V_5 U.exts.length V_c5, .slice V_6 U.priv.length V_c6, .string U.grand, .string y] 103)).cell? ⟨w3.heap.size, 3, none⟩ = some _ := (blk_cell (new_blk w3 (.cells #[.string U.lang, .slice V_1 U.ext.length V_c1, .string U.script, .string U.region, .slice V_4 U.vars.length V_c4, .slice V_5 U.exts.length V_c5, .slice V_6 U.priv.length V_c6, .string U.grand, .string y] 103)) 3).trans rfl; have k4 : (w3.alloc (.cells #[.string U.lang, .slice V_1 U.ext.length V_c1, .string U.script, .string U.region, .slice V_4 U.vars.length V_c4, .slice V_5 U.exts.length V_c5, .slice V_6 U.priv.length V_c6, .string U.grand, .string y] 103)).cell? ⟨w3.heap.size, 4, none⟩ = some _ := (blk_cell (new_blk w3 (.cells #[.string U.lang, .slice V_1 U.ext.length V_c1, .string U.script, .string U.region, .slice V_4 U.vars.length V_c4, .slice V_5 U.exts.length V_c5, .slice V_6 U.priv.length V_c6, .string U.grand, .string y] 103)) 4).trans rfl; have k5 : (w3.alloc (.cells #[.string U.lang, .slice V_1 U.ext.length V_c1, .string U.script, .string U.region, .slice V_4 U.vars.length V_c4, .slice V_5 U.exts.length V_c5, .slice V_6 U.priv.length V_c6, .string U.grand, .string y] 103)).cell? ⟨w3.heap.size, 5, none⟩ = some _ := (blk_cell (new_blk w3 (.cells #[.string U.lang, .slice V_1 U.ext.length V_c1, .string U.script, .string U.region, .slice V_4 U.vars.length V_c4, .slice V_5 U.exts.length V_c5, .slice V_6 U.priv.length V_c6, .string U.grand, .string y] 103)) 5).trans rfl; have k6 : (w3.alloc (.cells #[.string U.lang, .slice V_1 U.ext.length V_c1, .string U.script, .string U.region, .slice V_4 U.vars.length V_c4, .slice V_5 U.exts.length V_c5, .slice V_6 U.priv.length V_c6, .string U.grand, .string y] 103)).cell? ⟨w3.heap.size, 6, none⟩ = some _ := (blk_cell (new_blk w3 (.cells #[.string U.lang, .slice V_1 U.ext.length V_c1, .string U.script, .string U.region, .slice V_4 U.vars.length V_c4, .slice V_5 U.exts.length V_c5, .slice V_6 U.priv.length V_c6, .string U.grand, .string y] 103)) 6).trans rfl; have k7 : (w3.alloc (.cells #[.string U.lang, .slice V_1 U.ext.length V_c1, .string U.script, .string U.region, .slice V_4 U.vars.length V_c4, .slice V_5 U.exts.length V_c5, .slice V_6 U.priv.length V_c6, .string U.grand, .string y] 103)).cell? ⟨w3.heap.size, 7, none⟩ = some _ := (blk_cell (new_blk w3 (.cells #[.string U.lang, .slice V_1 U.ext.length V_c1, .string U.script, .string U.region, .slice V_4 U.vars.length V_c4, .slice V_5 U.exts.length V_c5, .slice V_6 U.priv.length V_c6, .string U.grand, .string y] 103)) 7).trans rfl; have k8 : (w3.alloc (.cells #[.string U.lang, .slice V_1 U.ext.length V_c1, .string U.script, .string U.region, .slice V_4 U.vars.length V_c4, .slice V_5 U.exts.length V_c5, .slice V_6 U.priv.length V_c6, .string U.grand, .string y] 103)).cell? ⟨w3.heap.size, 8, none⟩ = some _ := (blk_cell (new_blk w3 (.cells #[.string U.lang, .slice V_1 U.ext.length V_c1, .string U.script, .string U.region, .slice V_4 U.vars.length V_c4, .slice V_5 U.exts.length V_c5, .slice V_6 U.priv.length V_c6, .string U.grand, .string y] 103)) 8).trans rfl; clear hb hR HB2 RT2 TN HDF)
    | (go_at_call 16; refine (same_calls (T := U) (RT3.out.below (below_alloc (Below.refl _ _) _)) (RV3.out.below (below_alloc (Below.refl _ _) _))).mono ?_; rw [sameT_refl]; rintro e w4 ⟨rfl, hb⟩; have HB4 := Lib.hid (below_step (below_alloc HB3.out (.cells #[.string U.lang, .slice V_1 U.ext.length V_c1, .string U.script, .string U.region, .slice V_4 U.vars.length V_c4, .slice V_5 U.exts.length V_c5, .slice V_6 U.priv.length V_c6, .string U.grand, .string y] 103)) hb); have GN4 := Lib.hid (blk_on (new_blk w3 (.cells #[.string U.lang, .slice V_1 U.ext.length V_c1, .string U.script, .string U.region, .slice V_4 U.vars.length V_c4, .slice V_5 U.exts.length V_c5, .slice V_6 U.priv.length V_c6, .string U.grand, .string y] 103)) hb); clear q0 q1 q2 q3 q4 q5 q6 q7 k0 k1 k2 k3 k4 k5 k6 k7 k8 hb HB3 RT3 RV3 TN3))
  have k8 : w4.cell? ⟨w3.heap.size, 8, none⟩ = some (.string y) := (blk_cell GN4.out 8).trans rfl
  have e1 : (y.toList == y.toList) = true := beq_self_eq_true _
  go_wp2
  go_ret
  exact ⟨rfl, HB4.out⟩
set_option maxRecDepth 100000 in
set_option maxHeartbeats 16000000 in
theorem pfirst (s0 sh x : ByteArray) (a0 a1 a2 a3 : Int) (A4 : Option Addr) (c4 : Nat) (l4 : List Int) (A5 : Option Addr) (c5 : Nat) (l5 : List Int) (A6 : Option Addr) (c6 : Nat) (l6 : List Int) (a7 : Int) (w : World) (h4 : IntsC w A4 c4 l4) (h5 : IntsC w A5 c5 l5) (h6 : IntsC w A6 c6 l6) (hG : Given w) (T : TG) (hss : sh.size ≤ 80) (hxs : x.size ≤ 1300)
    (SH : ∀ W, Calls Tryz.prog 18 #[.string s0] W fun e W' => e = .returned (.string sh) ∧ Below W.heap.size W W')
    (MD : ∀ W, IntsC W A4 c4 l4 → IntsC W A5 c5 l5 → IntsC W A6 c6 l6 → Calls Tryz.prog 11 #[.agg #[.int .i64 a0, .int .i64 a1, .int .i64 a2, .int .i64 a3, .slice A4 l4.length c4, .slice A5 l5.length c5, .slice A6 l6.length c6, .int .i64 a7]] W fun e W' => ∃ A1 c1 A4 c4 A5 c5 A6 c6, e = .returned (.agg (tagCells T A1 c1 A4 c4 A5 c5 A6 c6)) ∧ RowsC W' T A1 c1 A4 c4 A5 c5 A6 c6 ∧ Below W.heap.size W W')
    (TX : ∀ W A1 c1 A4 c4 A5 c5 A6 c6, RowsC W T A1 c1 A4 c4 A5 c5 A6 c6 → Calls Tryz.prog 12 #[.agg (tagCells T A1 c1 A4 c4 A5 c5 A6 c6)] W fun e W' => e = .returned (.string x) ∧ Below W.heap.size W W') :
    Calls Tryz.prog 8 #[.string s0, .agg #[.int .i64 a0, .int .i64 a1, .int .i64 a2, .int .i64 a3, .slice A4 l4.length c4, .slice A5 l5.length c5, .slice A6 l6.length c6, .int .i64 a7]] w fun e w' => e = .returned (.bool true) ∧ Below w.heap.size w w' := by
  have HS4 := Lib.hid h4
  have HS5 := Lib.hid h5
  have HS6 := Lib.hid h6
  have HG := Lib.hid hG
  have HSH := Lib.hid SH
  have HMD := Lib.hid MD
  have HTX := Lib.hid TX
  have F1 := Lib.hid (fun W (h : Given W) => first_calls sh (by omega) W h)
  have F2 := Lib.hid (fun W (h : Given W) => first_calls x (by omega) W h)
  have F3 := Lib.hid (fun W (h : Given W) => first_calls (x ++ ⟨#[45]⟩ ++ sh) (by rw [ByteArray.size_append, ByteArray.size_append, show (⟨#[45]⟩ : ByteArray).size = 1 from rfl]; omega) W h)
  have F4 := Lib.hid (fun W (h : Given W) => first_calls (x ++ sh) (by rw [ByteArray.size_append]; omega) W h)
  have HB1 := Lib.hid (below_alloc (Below.refl w.heap.size w) (.cells #[.int .i64 a0, .int .i64 a1, .int .i64 a2, .int .i64 a3, .slice A4 l4.length c4, .slice A5 l5.length c5, .slice A6 l6.length c6, .int .i64 a7] 24))
  have K1 := Lib.hid (new_blk w (.cells #[.int .i64 a0, .int .i64 a1, .int .i64 a2, .int .i64 a3, .slice A4 l4.length c4, .slice A5 l5.length c5, .slice A6 l6.length c6, .int .i64 a7] 24))
  have z1 : ¬ (9223372036854775807 < x.size + 1) := by omega
  have z2 : ¬ (9223372036854775807 < x.size + 1 + sh.size) := by omega
  have z3 : ¬ (9223372036854775807 < x.size + sh.size) := by omega
  clear h4 h5 h6 hG SH MD TX hss hxs
  go_enter Tryz.func8, Tryz.ntmps8
  go_wp2_with (first
    | (go_at_call 10; refine (awake_calls _ (HG.out.below HB1.out)).mono ?_; rintro e w2 ⟨rfl, hb⟩; have HB2 := Lib.hid (below_step HB1.out hb); have K2 := Lib.hid (blk_on K1.out hb); clear hb HB1 K1)
    | (go_at_call 18; refine (HSH.out _).mono ?_; rintro e w3 ⟨rfl, hb⟩; have HB3 := Lib.hid (below_step HB2.out hb); obtain ⟨q0, q1, q2, q3, q4, q5, q6, q7⟩ := cells8p (blk_on K2.out hb); clear hb HB2 K2 HSH)
    | (go_at_call 11; refine (HMD.out _ (HS4.out.below HB3.out) (HS5.out.below HB3.out) (HS6.out.below HB3.out)).mono ?_; rintro e w4 ⟨B_1, B_c1, B_4, B_c4, B_5, B_c5, B_6, B_c6, rfl, hR, hb⟩; have HB4 := Lib.hid (below_step HB3.out hb); have RT4 := Lib.hid hR; clear q0 q1 q2 q3 q4 q5 q6 q7 hb hR HB3 HS4 HS5 HS6 HMD)
    | (go_at_call 12; refine (HTX.out _ _ _ _ _ _ _ _ _ RT4.out).mono ?_; rintro e w5 ⟨rfl, hb⟩; have HB5 := Lib.hid (below_step HB4.out hb); clear hb HB4 RT4 HTX)
    | (go_at_call 30; refine (F1.out _ (HG.out.below HB5.out)).mono ?_; rintro e w6 ⟨rfl, hb⟩; have HB6 := Lib.hid (below_step HB5.out hb); clear hb HB5 F1)
    | (go_at_call 30; refine (F2.out _ (HG.out.below HB6.out)).mono ?_; rintro e w7 ⟨rfl, hb⟩; have HB7 := Lib.hid (below_step HB6.out hb); clear hb HB6 F2)
    | (go_at_call 30; refine (F3.out _ (HG.out.below HB7.out)).mono ?_; rintro e w8 ⟨rfl, hb⟩; have HB8 := Lib.hid (below_step HB7.out hb); clear hb HB7 F3)
    | (go_at_call 30; refine (F4.out _ (HG.out.below HB8.out)).mono ?_; rintro e w9 ⟨rfl, hb⟩; have HB9 := Lib.hid (below_step HB8.out hb); clear hb HB8 F4))
  go_ret
  exact ⟨rfl, HB9.out⟩
theorem ParseFirst_calls (s0 : ByteArray) (a0 a1 a2 a3 : Int) (A4 : Option Addr) (c4 : Nat) (l4 : List Int) (A5 : Option Addr) (c5 : Nat) (l5 : List Int) (A6 : Option Addr) (c6 : Nat) (l6 : List Int) (a7 : Int) (w : World) (h4 : IntsC w A4 c4 l4) (h5 : IntsC w A5 c5 l5) (h6 : IntsC w A6 c6 l6) (hG : Given w) :
    Calls Tryz.prog 8 #[.string s0, .agg #[.int .i64 a0, .int .i64 a1, .int .i64 a2, .int .i64 a3, .slice A4 l4.length c4, .slice A5 l5.length c5, .slice A6 l6.length c6, .int .i64 a7]] w fun e w' => e = .returned (.bool true) ∧ Below w.heap.size w w' := by
  obtain ⟨B, hB, MD0⟩ := made_calls a0 a1 a2 a3 l4 l5 l6 a7
  have hf : FewS (spoiltT B (oddN a7)) := hB.fewS (oddN a7)
  have ht : TxtS (spoiltT B (oddN a7)) := baseT_txtS hB (oddN a7)
  have hm : Small (spoiltT B (oddN a7)) := base_small hB (oddN a7)
  generalize spoiltT B (oddN a7) = T at MD0 hf ht hm
  have hx : (textT T).length ≤ 1300 := hm.text ht
  exact pfirst s0 (shortB s0) (mk (textT T)) a0 a1 a2 a3 A4 c4 l4 A5 c5 l5 A6 c6 l6 a7 w h4 h5 h6 hG T (shortB_size s0) (by rw [mk_size]; exact hx) (fun W => short_calls s0 W) (fun W i4 i5 i6 => MD0 A4 c4 A5 c5 A6 c6 W i4 i5 i6) (fun W A1 c1 A4 c4 A5 c5 A6 c6 h => text_calls h hf ht)
def w7_ParseFirst.f (k : Nat) (s0 : ByteArray) (a0 a1 a2 a3 : Int) (l4 l5 l6 : List Int) (a7 : Int) : Option Bool := some true
theorem w7_ParseFirst.calls (k : Nat) (s0 : ByteArray) (a0 a1 a2 a3 : Int) (A4 : Option Addr) (c4 : Nat) (l4 : List Int) (A5 : Option Addr) (c5 : Nat) (l5 : List Int) (A6 : Option Addr) (c6 : Nat) (l6 : List Int) (a7 : Int) (r : Bool) (w : World) (h4 : Kd.C (Kd.int .i64) w A4 l4.length l4) (g4 : l4.length ≤ c4) (h5 : Kd.C (Kd.int .i64) w A5 l5.length l5) (g5 : l5.length ≤ c5) (h6 : Kd.C (Kd.int .i64) w A6 l6.length l6) (g6 : l6.length ≤ c6) (hG : Given w) (h : w7_ParseFirst.f k s0 a0 a1 a2 a3 l4 l5 l6 a7 = some r) :
    Calls Tryz.prog 8 #[.string s0, .agg #[.int .i64 a0, .int .i64 a1, .int .i64 a2, .int .i64 a3, .slice A4 l4.length c4, .slice A5 l5.length c5, .slice A6 l6.length c6, .int .i64 a7]] w fun e w' => e = .returned (.bool r) ∧ Below w.heap.size w w' := by
  obtain rfl := Option.some.inj h
  exact ParseFirst_calls s0 a0 a1 a2 a3 A4 c4 l4 A5 c5 l5 A6 c6 l6 a7 w ⟨h4, g4⟩ ⟨h5, g5⟩ ⟨h6, g6⟩ hG
end Go.Proofs.YtejnfbfikadpdaaGreatDoor.P
