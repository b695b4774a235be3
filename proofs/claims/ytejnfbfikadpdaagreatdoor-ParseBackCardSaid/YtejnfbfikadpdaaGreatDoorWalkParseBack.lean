/- The law ParseBack, walked. Condition: the error's variable and the names. -/
import Derived.Test.YtejnfbfikadpdaaGreatDoorHandLaw
import Derived.Test.YtejnfbfikadpdaaGreatDoorHandRec
import Derived.Test.YtejnfbfikadpdaaGreatDoorPureBack
import Derived.Test.YtejnfbfikadpdaaGreatDoorPx14
namespace Go.Proofs.YtejnfbfikadpdaaGreatDoor.P
open Go.RowKit Go.Shelf Go.Proofs.YtejnfbfikadpdaaGreatDoorW.PrintWords Go.Proofs.YtejnfbfikadpdaaGreatDoorW.PrintLast Go.Proofs.YtejnfbfikadpdaaGreatDoorW.PrintMore Go.Proofs.YtejnfbfikadpdaaGreatDoor.Iso
set_option linter.unusedVariables false
set_option linter.unusedSimpArgs false
attribute [local go_sem] Oper.semAt_some
set_option maxRecDepth 100000 in
set_option maxHeartbeats 16000000 in
theorem back_good (x y : ByteArray) (a0 a1 a2 a3 : Int) (A4 : Option Addr) (c4 : Nat) (l4 : List Int) (A5 : Option Addr) (c5 : Nat) (l5 : List Int) (A6 : Option Addr) (c6 : Nat) (l6 : List Int) (a7 : Int) (w : World) (h4 : IntsC w A4 c4 l4) (h5 : IntsC w A5 c5 l5) (h6 : IntsC w A6 c6 l6) (hG : Given w) (T : TG) (U : TG) (rb : Bool) (hrb : sameT U T = rb)
    (MD : ∀ W, IntsC W A4 c4 l4 → IntsC W A5 c5 l5 → IntsC W A6 c6 l6 → Calls Tryz.prog 11 #[.agg #[.int .i64 a0, .int .i64 a1, .int .i64 a2, .int .i64 a3, .slice A4 l4.length c4, .slice A5 l5.length c5, .slice A6 l6.length c6, .int .i64 a7]] W fun e W' => ∃ A1 c1 A4 c4 A5 c5 A6 c6, e = .returned (.agg (tagCells T A1 c1 A4 c4 A5 c5 A6 c6)) ∧ RowsC W' T A1 c1 A4 c4 A5 c5 A6 c6 ∧ Below W.heap.size W W')
    (TX : ∀ W A1 c1 A4 c4 A5 c5 A6 c6, RowsC W T A1 c1 A4 c4 A5 c5 A6 c6 → Calls Tryz.prog 12 #[.agg (tagCells T A1 c1 A4 c4 A5 c5 A6 c6)] W fun e W' => e = .returned (.string x) ∧ Below W.heap.size W W')
    (UP : ∀ W, Calls Tryz.prog 14 #[.string x] W fun e W' => e = .returned (.string y) ∧ Below W.heap.size W W')
    (RI : ∀ W A1 c1 A4 c4 A5 c5 A6 c6, RowsC W T A1 c1 A4 c4 A5 c5 A6 c6 → Calls Tryz.prog 15 #[.agg (tagCells T A1 c1 A4 c4 A5 c5 A6 c6)] W fun e W' => e = .returned (.bool rb) ∧ Below W.heap.size W W')
    (PA : ∀ W, NamesIn W → Calls Tryz.prog 13 #[.string y] W fun e W' => ∃ A1 c1 A4 c4 A5 c5 A6 c6, e = .returned (.tuple #[.agg (tagCells U A1 c1 A4 c4 A5 c5 A6 c6), .nilIface]) ∧ RowsC W' U A1 c1 A4 c4 A5 c5 A6 c6 ∧ Below W.heap.size W W') :
    Calls Tryz.prog 3 #[.agg #[.int .i64 a0, .int .i64 a1, .int .i64 a2, .int .i64 a3, .slice A4 l4.length c4, .slice A5 l5.length c5, .slice A6 l6.length c6, .int .i64 a7]] w fun e w' => e = .returned (.bool true) ∧ Below w.heap.size w w' := by
  have HS4 := Lib.hid h4
  have HS5 := Lib.hid h5
  have HS6 := Lib.hid h6
  have HG := Lib.hid hG
  have HMD := Lib.hid MD
  have HTX := Lib.hid TX
  have HUP := Lib.hid UP
  have HRI := Lib.hid RI
  have HPA := Lib.hid PA
  have HRB := Lib.hid hrb
  have HB1 := Lib.hid (below_alloc (Below.refl w.heap.size w) (.cells #[.int .i64 a0, .int .i64 a1, .int .i64 a2, .int .i64 a3, .slice A4 l4.length c4, .slice A5 l5.length c5, .slice A6 l6.length c6, .int .i64 a7] 24))
  have K1 := Lib.hid (new_blk w (.cells #[.int .i64 a0, .int .i64 a1, .int .i64 a2, .int .i64 a3, .slice A4 l4.length c4, .slice A5 l5.length c5, .slice A6 l6.length c6, .int .i64 a7] 24))
  clear h4 h5 h6 hG MD TX UP RI PA hrb
  go_enter Tryz.func3, Tryz.ntmps3
  go_upto_region 7 with (first
    | (go_at_call 10; refine (awake_calls _ (HG.out.below HB1.out)).mono ?_; rintro e w2 ⟨rfl, hb⟩; have HB2 := Lib.hid (below_step HB1.out hb); obtain ⟨q0, q1, q2, q3, q4, q5, q6, q7⟩ := cells8p (blk_on K1.out hb); clear hb HB1 K1)
    | (go_at_call 11; refine (HMD.out _ (HS4.out.below HB2.out) (HS5.out.below HB2.out) (HS6.out.below HB2.out)).mono ?_; rintro e w3 ⟨B_1, B_c1, B_4, B_c4, B_5, B_c5, B_6, B_c6, rfl, hR, hb⟩; have HB3 := Lib.hid (below_step HB2.out hb); have RT3 := Lib.hid hR; clear q0 q1 q2 q3 q4 q5 q6 q7 hb hR HB2 HS4 HS5 HS6 HMD; obtain ⟨q0, q1, q2, q3, q4, q5, q6, q7⟩ := cells8p (new_blk w3 (.cells #[.string T.lang, .slice B_1 T.ext.length B_c1, .string T.script, .string T.region, .slice B_4 T.vars.length B_c4, .slice B_5 T.exts.length B_c5, .slice B_6 T.priv.length B_c6, .string T.grand] 29)))
    | (go_at_call 12; refine (HTX.out _ _ _ _ _ _ _ _ _ (RT3.out.below (below_alloc (Below.refl _ _) _))).mono ?_; rintro e w4 ⟨rfl, hb⟩; have HB4 := Lib.hid (below_step (below_alloc HB3.out _) hb); have RT4 := Lib.hid ((RT3.out.below (below_alloc (Below.refl _ _) (.cells #[.string T.lang, .slice B_1 T.ext.length B_c1, .string T.script, .string T.region, .slice B_4 T.vars.length B_c4, .slice B_5 T.exts.length B_c5, .slice B_6 T.priv.length B_c6, .string T.grand] 29))).below hb); have KT4 := Lib.hid (blk_on (new_blk w3 (.cells #[.string T.lang, .slice B_1 T.ext.length B_c1, .string T.script, .string T.region, .slice B_4 T.vars.length B_c4, .slice B_5 T.exts.length B_c5, .slice B_6 T.priv.length B_c6, .string T.grand] 29)) hb); clear q0 q1 q2 q3 q4 q5 q6 q7 hb HB3 RT3 HTX)
    | (go_at_call 14; refine (HUP.out _).mono ?_; rintro e w5 ⟨rfl, hb⟩; have HB5 := Lib.hid (below_step HB4.out hb); have RT5 := Lib.hid (RT4.out.below hb); have KT5 := Lib.hid (blk_on KT4.out hb); clear hb HB4 RT4 KT4 HUP)
    | (go_at_call 13; refine (HPA.out _ (HG.out.below HB5.out).names).mono ?_; rintro e w6 ⟨U_1, U_c1, U_4, U_c4, U_5, U_c5, U_6, U_c6, rfl, hR, hb⟩; have HB6 := Lib.hid (below_step HB5.out hb); have RT6 := Lib.hid (RT5.out.below hb); have RU6 := Lib.hid hR; have KT6 := Lib.hid (blk_on KT5.out hb); clear hb hR HB5 RT5 KT5 HPA; obtain ⟨q0, q1, q2, q3, q4, q5, q6, q7⟩ := cells8o KT6.out (.cells #[.string U.lang, .slice U_1 U.ext.length U_c1, .string U.script, .string U.region, .slice U_4 U.vars.length U_c4, .slice U_5 U.exts.length U_c5, .slice U_6 U.priv.length U_c6, .string U.grand] 29))
    | (go_at_call 15; refine (HRI.out _ _ _ _ _ _ _ _ _ (RT6.out.below (below_alloc (Below.refl _ _) _))).mono ?_; rintro e w7 ⟨rfl, hb⟩; have HB7 := Lib.hid (below_step (below_alloc HB6.out _) hb); have RT7 := Lib.hid ((RT6.out.below (below_alloc (Below.refl _ _) (.cells #[.string U.lang, .slice U_1 U.ext.length U_c1, .string U.script, .string U.region, .slice U_4 U.vars.length U_c4, .slice U_5 U.exts.length U_c5, .slice U_6 U.priv.length U_c6, .string U.grand] 29))).below hb); have RU7 := Lib.hid ((RU6.out.below (below_alloc (Below.refl _ _) (.cells #[.string U.lang, .slice U_1 U.ext.length U_c1, .string U.script, .string U.region, .slice U_4 U.vars.length U_c4, .slice U_5 U.exts.length U_c5, .slice U_6 U.priv.length U_c6, .string U.grand] 29))).below hb); clear q0 q1 q2 q3 q4 q5 q6 q7; obtain ⟨q0, q1, q2, q3, q4, q5, q6, q7⟩ := cells8p (blk_on (blk_alloc1 KT6.out (.cells #[.string U.lang, .slice U_1 U.ext.length U_c1, .string U.script, .string U.region, .slice U_4 U.vars.length U_c4, .slice U_5 U.exts.length U_c5, .slice U_6 U.priv.length U_c6, .string U.grand] 29)) hb); obtain ⟨u0, u1, u2, u3, u4, u5, u6, u7⟩ := cells8p (blk_on (new_blk w6 (.cells #[.string U.lang, .slice U_1 U.ext.length U_c1, .string U.script, .string U.region, .slice U_4 U.vars.length U_c4, .slice U_5 U.exts.length U_c5, .slice U_6 U.priv.length U_c6, .string U.grand] 29)) hb); clear hb HB6 RT6 RU6 KT6 HRI)
    | (go_at_call 16; refine (same_calls RU7.out RT7.out).mono ?_; rw [HRB.out]; rintro e w8 ⟨rfl, hb⟩; have HB8 := Lib.hid (below_step HB7.out hb); clear q0 q1 q2 q3 q4 q5 q6 q7 u0 u1 u2 u3 u4 u5 u6 u7 hb HB7 RT7 RU7))
  clear HRB
  cases rb with
  | true =>
    go_wp2
    go_ret
    exact ⟨rfl, HB8.out⟩
  | false =>
    go_wp2
    go_ret
    exact ⟨rfl, HB8.out⟩
set_option maxRecDepth 100000 in
set_option maxHeartbeats 16000000 in
theorem back_bad (x y : ByteArray) (a0 a1 a2 a3 : Int) (A4 : Option Addr) (c4 : Nat) (l4 : List Int) (A5 : Option Addr) (c5 : Nat) (l5 : List Int) (A6 : Option Addr) (c6 : Nat) (l6 : List Int) (a7 : Int) (w : World) (h4 : IntsC w A4 c4 l4) (h5 : IntsC w A5 c5 l5) (h6 : IntsC w A6 c6 l6) (hG : Given w) (T : TG) (kd pl : Int) (what : ByteArray) (rb : Bool) (hrb : rb = false)
    (MD : ∀ W, IntsC W A4 c4 l4 → IntsC W A5 c5 l5 → IntsC W A6 c6 l6 → Calls Tryz.prog 11 #[.agg #[.int .i64 a0, .int .i64 a1, .int .i64 a2, .int .i64 a3, .slice A4 l4.length c4, .slice A5 l5.length c5, .slice A6 l6.length c6, .int .i64 a7]] W fun e W' => ∃ A1 c1 A4 c4 A5 c5 A6 c6, e = .returned (.agg (tagCells T A1 c1 A4 c4 A5 c5 A6 c6)) ∧ RowsC W' T A1 c1 A4 c4 A5 c5 A6 c6 ∧ Below W.heap.size W W')
    (TX : ∀ W A1 c1 A4 c4 A5 c5 A6 c6, RowsC W T A1 c1 A4 c4 A5 c5 A6 c6 → Calls Tryz.prog 12 #[.agg (tagCells T A1 c1 A4 c4 A5 c5 A6 c6)] W fun e W' => e = .returned (.string x) ∧ Below W.heap.size W W')
    (UP : ∀ W, Calls Tryz.prog 14 #[.string x] W fun e W' => e = .returned (.string y) ∧ Below W.heap.size W W')
    (RI : ∀ W A1 c1 A4 c4 A5 c5 A6 c6, RowsC W T A1 c1 A4 c4 A5 c5 A6 c6 → Calls Tryz.prog 15 #[.agg (tagCells T A1 c1 A4 c4 A5 c5 A6 c6)] W fun e W' => e = .returned (.bool rb) ∧ Below W.heap.size W W')
    (PA : ∀ W, NamesIn W → Calls Tryz.prog 13 #[.string y] W fun e W' => ∃ A1 c1 A4 c4 A5 c5 A6 c6 D, e = .returned (.tuple #[.agg #[.string ⟨#[]⟩, .slice A1 0 c1, .string ⟨#[]⟩, .string ⟨#[]⟩, .slice A4 0 c4, .slice A5 0 c5, .slice A6 0 c6, .string ⟨#[]⟩], .iface 93 (.pointer (some ⟨D, 0, none⟩))]) ∧ FaultAt W' (D, pl, what) (.iface 49 (.int .i64 kd)) ∧ RowsC W' T0 A1 c1 A4 c4 A5 c5 A6 c6 ∧ Below W.heap.size W W') :
    Calls Tryz.prog 3 #[.agg #[.int .i64 a0, .int .i64 a1, .int .i64 a2, .int .i64 a3, .slice A4 l4.length c4, .slice A5 l5.length c5, .slice A6 l6.length c6, .int .i64 a7]] w fun e w' => e = .returned (.bool true) ∧ Below w.heap.size w w' := by
  have HS4 := Lib.hid h4
  have HS5 := Lib.hid h5
  have HS6 := Lib.hid h6
  have HG := Lib.hid hG
  have HMD := Lib.hid MD
  have HTX := Lib.hid TX
  have HUP := Lib.hid UP
  have HRI := Lib.hid RI
  have HPA := Lib.hid PA
  have HRB := Lib.hid hrb
  have HB1 := Lib.hid (below_alloc (Below.refl w.heap.size w) (.cells #[.int .i64 a0, .int .i64 a1, .int .i64 a2, .int .i64 a3, .slice A4 l4.length c4, .slice A5 l5.length c5, .slice A6 l6.length c6, .int .i64 a7] 24))
  have K1 := Lib.hid (new_blk w (.cells #[.int .i64 a0, .int .i64 a1, .int .i64 a2, .int .i64 a3, .slice A4 l4.length c4, .slice A5 l5.length c5, .slice A6 l6.length c6, .int .i64 a7] 24))
  clear h4 h5 h6 hG MD TX UP RI PA hrb
  obtain ⟨sb, hsb⟩ : ∃ sb, sb = sameT T0 T := ⟨_, rfl⟩
  have HSB := Lib.hid hsb.symm
  clear hsb
  go_enter Tryz.func3, Tryz.ntmps3
  go_upto_region 7 with (first
    | (go_at_call 10; refine (awake_calls _ (HG.out.below HB1.out)).mono ?_; rintro e w2 ⟨rfl, hb⟩; have HB2 := Lib.hid (below_step HB1.out hb); obtain ⟨q0, q1, q2, q3, q4, q5, q6, q7⟩ := cells8p (blk_on K1.out hb); clear hb HB1 K1)
    | (go_at_call 11; refine (HMD.out _ (HS4.out.below HB2.out) (HS5.out.below HB2.out) (HS6.out.below HB2.out)).mono ?_; rintro e w3 ⟨B_1, B_c1, B_4, B_c4, B_5, B_c5, B_6, B_c6, rfl, hR, hb⟩; have HB3 := Lib.hid (below_step HB2.out hb); have RT3 := Lib.hid hR; clear q0 q1 q2 q3 q4 q5 q6 q7 hb hR HB2 HS4 HS5 HS6 HMD; obtain ⟨q0, q1, q2, q3, q4, q5, q6, q7⟩ := cells8p (new_blk w3 (.cells #[.string T.lang, .slice B_1 T.ext.length B_c1, .string T.script, .string T.region, .slice B_4 T.vars.length B_c4, .slice B_5 T.exts.length B_c5, .slice B_6 T.priv.length B_c6, .string T.grand] 29)))
    | (go_at_call 12; refine (HTX.out _ _ _ _ _ _ _ _ _ (RT3.out.below (below_alloc (Below.refl _ _) _))).mono ?_; rintro e w4 ⟨rfl, hb⟩; have HB4 := Lib.hid (below_step (below_alloc HB3.out _) hb); have RT4 := Lib.hid ((RT3.out.below (below_alloc (Below.refl _ _) (.cells #[.string T.lang, .slice B_1 T.ext.length B_c1, .string T.script, .string T.region, .slice B_4 T.vars.length B_c4, .slice B_5 T.exts.length B_c5, .slice B_6 T.priv.length B_c6, .string T.grand] 29))).below hb); have KT4 := Lib.hid (blk_on (new_blk w3 (.cells #[.string T.lang, .slice B_1 T.ext.length B_c1, .string T.script, .string T.region, .slice B_4 T.vars.length B_c4, .slice B_5 T.exts.length B_c5, .slice B_6 T.priv.length B_c6, .string T.grand] 29)) hb); clear q0 q1 q2 q3 q4 q5 q6 q7 hb HB3 RT3 HTX)
    | (go_at_call 14; refine (HUP.out _).mono ?_; rintro e w5 ⟨rfl, hb⟩; have HB5 := Lib.hid (below_step HB4.out hb); have RT5 := Lib.hid (RT4.out.below hb); have KT5 := Lib.hid (blk_on KT4.out hb); clear hb HB4 RT4 KT4 HUP)
    | (go_at_call 13; refine (HPA.out _ (HG.out.below HB5.out).names).mono ?_; rintro e w6 ⟨U_1, U_c1, U_4, U_c4, U_5, U_c5, U_6, U_c6, D, rfl, hF, hR, hb⟩; have HB6 := Lib.hid (below_step HB5.out hb); have RT6 := Lib.hid (RT5.out.below hb); have RU6 := Lib.hid hR; have KT6 := Lib.hid (blk_on KT5.out hb); clear hb hR hF HB5 RT5 KT5 HPA; obtain ⟨q0, q1, q2, q3, q4, q5, q6, q7⟩ := cells8o KT6.out (.cells #[.string ⟨#[]⟩, .slice U_1 0 U_c1, .string ⟨#[]⟩, .string ⟨#[]⟩, .slice U_4 0 U_c4, .slice U_5 0 U_c5, .slice U_6 0 U_c6, .string ⟨#[]⟩] 29))
    | (go_at_call 15; refine (HRI.out _ _ _ _ _ _ _ _ _ (RT6.out.below (below_alloc (Below.refl _ _) _))).mono ?_; rintro e w7 ⟨rfl, hb⟩; have HB7 := Lib.hid (below_step (below_alloc HB6.out _) hb); have RT7 := Lib.hid ((RT6.out.below (below_alloc (Below.refl _ _) (.cells #[.string ⟨#[]⟩, .slice U_1 0 U_c1, .string ⟨#[]⟩, .string ⟨#[]⟩, .slice U_4 0 U_c4, .slice U_5 0 U_c5, .slice U_6 0 U_c6, .string ⟨#[]⟩] 29))).below hb); have RU7 := Lib.hid ((RU6.out.below (below_alloc (Below.refl _ _) (.cells #[.string ⟨#[]⟩, .slice U_1 0 U_c1, .string ⟨#[]⟩, .string ⟨#[]⟩, .slice U_4 0 U_c4, .slice U_5 0 U_c5, .slice U_6 0 U_c6, .string ⟨#[]⟩] 29))).below hb); clear q0 q1 q2 q3 q4 q5 q6 q7; obtain ⟨q0, q1, q2, q3, q4, q5, q6, q7⟩ := cells8p (blk_on (blk_alloc1 KT6.out (.cells #[.string ⟨#[]⟩, .slice U_1 0 U_c1, .string ⟨#[]⟩, .string ⟨#[]⟩, .slice U_4 0 U_c4, .slice U_5 0 U_c5, .slice U_6 0 U_c6, .string ⟨#[]⟩] 29)) hb); obtain ⟨u0, u1, u2, u3, u4, u5, u6, u7⟩ := cells8p (blk_on (new_blk w6 (.cells #[.string ⟨#[]⟩, .slice U_1 0 U_c1, .string ⟨#[]⟩, .string ⟨#[]⟩, .slice U_4 0 U_c4, .slice U_5 0 U_c5, .slice U_6 0 U_c6, .string ⟨#[]⟩] 29)) hb); clear hb HB6 RT6 RU6 KT6 HRI)
    | (go_at_call 16; refine (same_calls (T := T0) RU7.out RT7.out).mono ?_; rw [HSB.out]; rintro e w8 ⟨rfl, hb⟩; have HB8 := Lib.hid (below_step HB7.out hb); clear q0 q1 q2 q3 q4 q5 q6 q7 u0 u1 u2 u3 u4 u5 u6 u7 hb HB7 RT7 RU7))
  have hrb := HRB.out
  subst hrb
  go_wp2
  go_ret
  exact ⟨rfl, HB8.out⟩
theorem ParseBack_calls (a0 a1 a2 a3 : Int) (A4 : Option Addr) (c4 : Nat) (l4 : List Int) (A5 : Option Addr) (c5 : Nat) (l5 : List Int) (A6 : Option Addr) (c6 : Nat) (l6 : List Int) (a7 : Int) (w : World) (h4 : IntsC w A4 c4 l4) (h5 : IntsC w A5 c5 l5) (h6 : IntsC w A6 c6 l6) (hG : Given w) :
    Calls Tryz.prog 3 #[.agg #[.int .i64 a0, .int .i64 a1, .int .i64 a2, .int .i64 a3, .slice A4 l4.length c4, .slice A5 l5.length c5, .slice A6 l6.length c6, .int .i64 a7]] w fun e w' => e = .returned (.bool true) ∧ Below w.heap.size w w' := by
  obtain ⟨B, hB, MD0⟩ := made_calls a0 a1 a2 a3 l4 l5 l6 a7
  have hf : FewS (spoiltT B (oddN a7)) := hB.fewS (oddN a7)
  have ht : TxtS (spoiltT B (oddN a7)) := baseT_txtS hB (oddN a7)
  have hm : Small (spoiltT B (oddN a7)) := base_small hB (oddN a7)
  generalize spoiltT B (oddN a7) = T at MD0 hf ht hm
  have hx : (textT T).length ≤ 1300 := hm.text ht
  have hsub : ∀ s ∈ subsT T, s.size ≤ 1000000 := fun s hs => by
    have hs2 : s ∈ subsL T.lang T.ext T.script T.region T.vars T.exts T.priv T.grand := hs
    unfold subsL at hs2
    split at hs2
    · have := ht.sub s hs2; omega
    · obtain ⟨q, hq, rfl⟩ := List.mem_map.1 hs2
      have h1 := sp_small (bl T.grand) [] q (by rw [← split_sp]; exact hq)
      rw [bl_len] at h1
      have := ht.grand
      rw [mk_size]
      simp only [List.length_nil] at h1
      omega
  obtain ⟨k, hk⟩ := (right_ev T hf ht (by omega) hsub).rounds
  have MD : ∀ W, IntsC W A4 c4 l4 → IntsC W A5 c5 l5 → IntsC W A6 c6 l6 → Calls Tryz.prog 11 #[.agg #[.int .i64 a0, .int .i64 a1, .int .i64 a2, .int .i64 a3, .slice A4 l4.length c4, .slice A5 l5.length c5, .slice A6 l6.length c6, .int .i64 a7]] W fun e W' => ∃ A1 c1 A4 c4 A5 c5 A6 c6, e = .returned (.agg (tagCells T A1 c1 A4 c4 A5 c5 A6 c6)) ∧ RowsC W' T A1 c1 A4 c4 A5 c5 A6 c6 ∧ Below W.heap.size W W' := fun W i4 i5 i6 => MD0 A4 c4 A5 c5 A6 c6 W i4 i5 i6
  have TX : ∀ W A1 c1 A4 c4 A5 c5 A6 c6, RowsC W T A1 c1 A4 c4 A5 c5 A6 c6 → Calls Tryz.prog 12 #[.agg (tagCells T A1 c1 A4 c4 A5 c5 A6 c6)] W fun e W' => e = .returned (.string (mk (textT T))) ∧ Below W.heap.size W W' := fun W A1 c1 A4 c4 A5 c5 A6 c6 h => text_calls h hf ht
  have UP : ∀ W, Calls Tryz.prog 14 #[.string (mk (textT T))] W fun e W' => e = .returned (.string (mk (up (textT T)))) ∧ Below W.heap.size W W' := fun W => upper02_calls (mk (textT T)) (by rw [mk_size]; omega) W
  have RI : ∀ W A1 c1 A4 c4 A5 c5 A6 c6, RowsC W T A1 c1 A4 c4 A5 c5 A6 c6 → Calls Tryz.prog 15 #[.agg (tagCells T A1 c1 A4 c4 A5 c5 A6 c6)] W fun e W' => e = .returned (.bool (rightT T)) ∧ Below W.heap.size W W' := fun W A1 c1 A4 c4 A5 c5 A6 c6 h =>
    r6_Right.calls k _ _ _ _ _ _ _ _ _ _ _ _ _ _ _ _ _ W h.1.1 h.1.2 h.2.1.1 h.2.1.2 h.2.2.1.1 h.2.2.1.2 h.2.2.2.1 h.2.2.2.2 hk
  have hz : (mk (up (textT T))).size ≤ 900000 := by rw [mk_size, up_length]; omega
  have hlow : parseR (mk (up (textT T))) = parseR (mk (textT T)) := parseR_low (by rw [bl_mk, bl_mk, up_low])
  cases hr : parseR (mk (textT T)) with
  | good U =>
    refine back_good (mk (textT T)) (mk (up (textT T))) a0 a1 a2 a3 A4 c4 l4 A5 c5 l5 A6 c6 l6 a7 w h4 h5 h6 hG T U (rightT T) ?_ MD TX UP RI (fun W hN => Parse_good (hlow.trans hr) hz W hN)
    obtain ⟨hU, _⟩ := parse_right hr
    cases c : rightT T with
    | true =>
      have e := right_parse c
      rw [hr] at e
      rw [PRes.good.inj e]
      exact sameT_refl T
    | false =>
      cases d : sameT U T with
      | false => rfl
      | true =>
        rw [sameT_is d] at hU
        rw [hU] at c; cases c
  | bad kd pl what =>
    refine back_bad (mk (textT T)) (mk (up (textT T))) a0 a1 a2 a3 A4 c4 l4 A5 c5 l5 A6 c6 l6 a7 w h4 h5 h6 hG T kd pl what (rightT T) ?_ MD TX UP RI (fun W hN => Parse_bad (hlow.trans hr) hz W hN)
    cases c : rightT T with
    | false => rfl
    | true =>
      have e := right_parse c
      rw [hr] at e; cases e
def w7_ParseBack.f (k : Nat) (a0 a1 a2 a3 : Int) (l4 l5 l6 : List Int) (a7 : Int) : Option Bool := some true
theorem w7_ParseBack.calls (k : Nat) (a0 a1 a2 a3 : Int) (A4 : Option Addr) (c4 : Nat) (l4 : List Int) (A5 : Option Addr) (c5 : Nat) (l5 : List Int) (A6 : Option Addr) (c6 : Nat) (l6 : List Int) (a7 : Int) (r : Bool) (w : World) (h4 : Kd.C (Kd.int .i64) w A4 l4.length l4) (g4 : l4.length ≤ c4) (h5 : Kd.C (Kd.int .i64) w A5 l5.length l5) (g5 : l5.length ≤ c5) (h6 : Kd.C (Kd.int .i64) w A6 l6.length l6) (g6 : l6.length ≤ c6) (hG : Given w) (h : w7_ParseBack.f k a0 a1 a2 a3 l4 l5 l6 a7 = some r) :
    Calls Tryz.prog 3 #[.agg #[.int .i64 a0, .int .i64 a1, .int .i64 a2, .int .i64 a3, .slice A4 l4.length c4, .slice A5 l5.length c5, .slice A6 l6.length c6, .int .i64 a7]] w fun e w' => e = .returned (.bool r) ∧ Below w.heap.size w w' := by
  obtain rfl := Option.some.inj h
  exact ParseBack_calls a0 a1 a2 a3 A4 c4 l4 A5 c5 l5 A6 c6 l6 a7 w ⟨h4, g4⟩ ⟨h5, g5⟩ ⟨h6, g6⟩ hG
end Go.Proofs.YtejnfbfikadpdaaGreatDoor.P
