/- The law TagRight, walked. Condition: the names. -/
import Derived.Test.YtljadeeoaoiilaaGreatDoorSq
import Derived.Test.YtljadeeoaoiilaaGreatDoorHandRules
import Derived.Test.YtljadeeoaoiilaaGreatDoorEvFew
import Derived.Test.YtljadeeoaoiilaaGreatDoorPx17
import Derived.Test.YtljadeeoaoiilaaGreatDoorPx1
namespace Go.Proofs.YtljadeeoaoiilaaGreatDoor.P
open Go.RowKit Go.Shelf Go.Proofs.YtljadeeoaoiilaaGreatDoorW.PrintWords Go.Proofs.YtljadeeoaoiilaaGreatDoorW.PrintLast Go.Proofs.YtljadeeoaoiilaaGreatDoorW.PrintMore Go.Proofs.YtljadeeoaoiilaaGreatDoor.Iso
set_option linter.unusedVariables false
set_option linter.unusedSimpArgs false
attribute [local go_sem] Oper.semAt_some
theorem IntsC.below {W W' : World} {A : Option Addr} {c : Nat} {l : List Int} (h : IntsC W A c l) (hb : Below W.heap.size W W') : IntsC W' A c l := ⟨Kd.C_below h.1 hb, h.2⟩
def tr4_T : Bool × List (List Nat × List Nat) := (true, [([], []), ([0], [0]), ([1], [1]), ([2, 1, 1], [1, 2]), ([1], [1]), ([4, 3, 1], [1, 4]), ([3, 5, 1], [1, 3, 5]), ([1, 6], [1, 6]), ([7, 5], [7]), ([8], [8]), ([9, 8, 8], [8, 9]), ([8], [8]), ([11, 10, 8], [8, 11]), ([10, 12, 8], [8, 10, 12]), ([8, 13], [8, 13]), ([14, 12], [14]), ([15], [15]), ([16, 15, 15], [15, 16]), ([17, 15], [15, 17]), ([15, 18], [15, 18]), ([19, 17, 0, 1, 2, 3, 4, 5, 6, 7, 8, 9, 10, 11, 12, 13, 14, 15, 16, 17, 18, 19], [19])])
def tr4_B : List Nat := [0, 1, 3, 7, 3, 31, 63, 127, 255, 511, 1023, 511, 4095, 8191, 16383, 32767, 65535, 131071, 262143, 524287, 1048575]
theorem tr4_tab : rtab .any (opsOf Tryz.f3 4) = tr4_T := by kernel_rfl
theorem tr4_bits : waitsOk tr4_T.2 tr4_B = true := by kernel_rfl
set_option maxRecDepth 100000 in
set_option maxHeartbeats 16000000 in
theorem tright_walk (X : TG) (X1 : Option Addr) (d1 : Nat) (X4 : Option Addr) (d4 : Nat) (X5 : Option Addr) (d5 : Nat) (X6 : Option Addr) (d6 : Nat) (a0 a1 a2 a3 : Int) (A4 : Option Addr) (c4 : Nat) (l4 : List Int) (A5 : Option Addr) (c5 : Nat) (l5 : List Int) (A6 : Option Addr) (c6 : Nat) (l6 : List Int) (a7 : Int) (w : World) (hX : RowsC w X X1 d1 X4 d4 X5 d5 X6 d6) (h4 : IntsC w A4 c4 l4) (h5 : IntsC w A5 c5 l5) (h6 : IntsC w A6 c6 l6) (hN : NamesIn w) (T U : TG) (rt ru : Bool)
    (AW : ∀ W, Calls Tryz.prog 5 #[] W fun e W' => e = .returned (.bool true) ∧ Below W.heap.size W W')
    (FW : ∀ W, RowsC W X X1 d1 X4 d4 X5 d5 X6 d6 → Calls Tryz.prog 6 #[.agg (tagCells X X1 d1 X4 d4 X5 d5 X6 d6)] W fun e W' => ∃ A1 c1 A4 c4 A5 c5 A6 c6, e = .returned (.agg (tagCells T A1 c1 A4 c4 A5 c5 A6 c6)) ∧ RowsC W' T A1 c1 A4 c4 A5 c5 A6 c6 ∧ Below W.heap.size W W')
    (MD : ∀ W, IntsC W A4 c4 l4 → IntsC W A5 c5 l5 → IntsC W A6 c6 l6 → Calls Tryz.prog 7 #[.agg #[.int .i64 a0, .int .i64 a1, .int .i64 a2, .int .i64 a3, .slice A4 l4.length c4, .slice A5 l5.length c5, .slice A6 l6.length c6, .int .i64 a7]] W fun e W' => ∃ A1 c1 A4 c4 A5 c5 A6 c6, e = .returned (.agg (tagCells U A1 c1 A4 c4 A5 c5 A6 c6)) ∧ RowsC W' U A1 c1 A4 c4 A5 c5 A6 c6 ∧ Below W.heap.size W W')
    (PT : ∀ W A1 c1 A4 c4 A5 c5 A6 c6, NamesIn W → RowsC W T A1 c1 A4 c4 A5 c5 A6 c6 → Calls Tryz.prog 8 #[.agg (tagCells T A1 c1 A4 c4 A5 c5 A6 c6)] W fun e W' => e = .returned (.bool rt) ∧ Below W.heap.size W W')
    (RT : ∀ W A1 c1 A4 c4 A5 c5 A6 c6, RowsC W T A1 c1 A4 c4 A5 c5 A6 c6 → Calls Tryz.prog 9 #[.agg (tagCells T A1 c1 A4 c4 A5 c5 A6 c6)] W fun e W' => e = .returned (.bool rt) ∧ Below W.heap.size W W')
    (PU : ∀ W A1 c1 A4 c4 A5 c5 A6 c6, NamesIn W → RowsC W U A1 c1 A4 c4 A5 c5 A6 c6 → Calls Tryz.prog 8 #[.agg (tagCells U A1 c1 A4 c4 A5 c5 A6 c6)] W fun e W' => e = .returned (.bool ru) ∧ Below W.heap.size W W')
    (RU : ∀ W A1 c1 A4 c4 A5 c5 A6 c6, RowsC W U A1 c1 A4 c4 A5 c5 A6 c6 → Calls Tryz.prog 9 #[.agg (tagCells U A1 c1 A4 c4 A5 c5 A6 c6)] W fun e W' => e = .returned (.bool ru) ∧ Below W.heap.size W W')
    (PZ : ∀ W, NamesIn W → Calls Tryz.prog 8 #[.agg #[.string ⟨#[]⟩, .slice none 0 0, .string ⟨#[]⟩, .string ⟨#[]⟩, .slice none 0 0, .slice none 0 0, .slice none 0 0, .string ⟨#[]⟩]] W fun e W' => e = .returned (.bool false) ∧ Below W.heap.size W W') :
    Calls Tryz.prog 3 #[.agg (tagCells X X1 d1 X4 d4 X5 d5 X6 d6), .agg #[.int .i64 a0, .int .i64 a1, .int .i64 a2, .int .i64 a3, .slice A4 l4.length c4, .slice A5 l5.length c5, .slice A6 l6.length c6, .int .i64 a7]] w fun e w' => e = .returned (.bool true) ∧ Below w.heap.size w w' := by
  have HS4 := Lib.hid h4
  have HS5 := Lib.hid h5
  have HS6 := Lib.hid h6
  have HRX := Lib.hid hX
  have HN := Lib.hid hN
  have HAW := Lib.hid AW
  have HFW := Lib.hid FW
  have HMD := Lib.hid MD
  have HPT := Lib.hid PT
  have HRT := Lib.hid RT
  have HPU := Lib.hid PU
  have HRU := Lib.hid RU
  have HPZ := Lib.hid PZ
  have z1 : (w.alloc (.cells #[.string X.lang, .slice X1 X.ext.length d1, .string X.script, .string X.region, .slice X4 X.vars.length d4, .slice X5 X.exts.length d5, .slice X6 X.priv.length d6, .string X.grand] 25)).heap.size = w.heap.size + 1 := by simp
  have K2 := new_blk (w.alloc (.cells #[.string X.lang, .slice X1 X.ext.length d1, .string X.script, .string X.region, .slice X4 X.vars.length d4, .slice X5 X.exts.length d5, .slice X6 X.priv.length d6, .string X.grand] 25)) (.cells #[.int .i64 a0, .int .i64 a1, .int .i64 a2, .int .i64 a3, .slice A4 l4.length c4, .slice A5 l5.length c5, .slice A6 l6.length c6, .int .i64 a7] 28)
  rw [z1] at K2
  have HB1 := Lib.hid (below_alloc (below_alloc (Below.refl w.heap.size w) (.cells #[.string X.lang, .slice X1 X.ext.length d1, .string X.script, .string X.region, .slice X4 X.vars.length d4, .slice X5 X.exts.length d5, .slice X6 X.priv.length d6, .string X.grand] 25)) (.cells #[.int .i64 a0, .int .i64 a1, .int .i64 a2, .int .i64 a3, .slice A4 l4.length c4, .slice A5 l5.length c5, .slice A6 l6.length c6, .int .i64 a7] 28))
  have KX := Lib.hid (blk_on (new_blk w (.cells #[.string X.lang, .slice X1 X.ext.length d1, .string X.script, .string X.region, .slice X4 X.vars.length d4, .slice X5 X.exts.length d5, .slice X6 X.priv.length d6, .string X.grand] 25)) (below_alloc (Below.refl _ _) (.cells #[.int .i64 a0, .int .i64 a1, .int .i64 a2, .int .i64 a3, .slice A4 l4.length c4, .slice A5 l5.length c5, .slice A6 l6.length c6, .int .i64 a7] 28)))
  have KS := Lib.hid K2
  clear h4 h5 h6 hX hN AW FW MD PT RT PU RU PZ z1 K2
  go_enter Tryz.func3, Tryz.ntmps3
  go_upto_region 4 with (first
    | (go_at_call 5; refine (HAW.out _).mono ?_; rintro e w2 ⟨rfl, hb⟩; have HB2 := Lib.hid (below_step HB1.out hb); have KS2 := Lib.hid (blk_on KS.out hb); obtain ⟨q0, q1, q2, q3, q4, q5, q6, q7⟩ := cells8p (blk_on KX.out hb); clear hb HB1 KX KS HAW)
    | (go_at_call 6; refine (HFW.out _ (HRX.out.below HB2.out)).mono ?_; rintro e w3 ⟨B_1, B_c1, B_4, B_c4, B_5, B_c5, B_6, B_c6, rfl, hR, hb⟩; have HB3 := Lib.hid (below_step HB2.out hb); have RT3 := Lib.hid hR; have KS3 := Lib.hid (blk_on KS2.out hb); clear q0 q1 q2 q3 q4 q5 q6 q7 hb hR HB2 KS2 HFW HRX; obtain ⟨s0, s1, s2, s3, s4, s5, s6, s7⟩ := cells8o KS3.out (.cells #[.string T.lang, .slice B_1 T.ext.length B_c1, .string T.script, .string T.region, .slice B_4 T.vars.length B_c4, .slice B_5 T.exts.length B_c5, .slice B_6 T.priv.length B_c6, .string T.grand] 25))
    | (go_at_call 7; refine (HMD.out _ (HS4.out.below (below_alloc HB3.out (.cells #[.string T.lang, .slice B_1 T.ext.length B_c1, .string T.script, .string T.region, .slice B_4 T.vars.length B_c4, .slice B_5 T.exts.length B_c5, .slice B_6 T.priv.length B_c6, .string T.grand] 25))) (HS5.out.below (below_alloc HB3.out (.cells #[.string T.lang, .slice B_1 T.ext.length B_c1, .string T.script, .string T.region, .slice B_4 T.vars.length B_c4, .slice B_5 T.exts.length B_c5, .slice B_6 T.priv.length B_c6, .string T.grand] 25))) (HS6.out.below (below_alloc HB3.out (.cells #[.string T.lang, .slice B_1 T.ext.length B_c1, .string T.script, .string T.region, .slice B_4 T.vars.length B_c4, .slice B_5 T.exts.length B_c5, .slice B_6 T.priv.length B_c6, .string T.grand] 25)))).mono ?_; rintro e w4 ⟨C_1, C_c1, C_4, C_c4, C_5, C_c5, C_6, C_c6, rfl, hR, hb⟩; have HB4 := Lib.hid (below_step (below_alloc HB3.out (.cells #[.string T.lang, .slice B_1 T.ext.length B_c1, .string T.script, .string T.region, .slice B_4 T.vars.length B_c4, .slice B_5 T.exts.length B_c5, .slice B_6 T.priv.length B_c6, .string T.grand] 25)) hb); have RT4 := Lib.hid ((RT3.out.below (below_alloc (Below.refl _ _) (.cells #[.string T.lang, .slice B_1 T.ext.length B_c1, .string T.script, .string T.region, .slice B_4 T.vars.length B_c4, .slice B_5 T.exts.length B_c5, .slice B_6 T.priv.length B_c6, .string T.grand] 25))).below hb); have RU4 := Lib.hid hR; have KT4 := Lib.hid (blk_on (new_blk w3 (.cells #[.string T.lang, .slice B_1 T.ext.length B_c1, .string T.script, .string T.region, .slice B_4 T.vars.length B_c4, .slice B_5 T.exts.length B_c5, .slice B_6 T.priv.length B_c6, .string T.grand] 25)) hb); clear s0 s1 s2 s3 s4 s5 s6 s7 hb hR HB3 RT3 KS3 HS4 HS5 HS6 HMD))
  have KT5 := Lib.hid (blk_on KT4.out (below_alloc (Below.refl _ _) (.cells #[.string U.lang, .slice C_1 U.ext.length C_c1, .string U.script, .string U.region, .slice C_4 U.vars.length C_c4, .slice C_5 U.exts.length C_c5, .slice C_6 U.priv.length C_c6, .string U.grand] 25)))
  have KU5 := Lib.hid (new_blk w4 (.cells #[.string U.lang, .slice C_1 U.ext.length C_c1, .string U.script, .string U.region, .slice C_4 U.vars.length C_c4, .slice C_5 U.exts.length C_c5, .slice C_6 U.priv.length C_c6, .string U.grand] 25))
  have HB5 := Lib.hid (below_alloc HB4.out (.cells #[.string U.lang, .slice C_1 U.ext.length C_c1, .string U.script, .string U.region, .slice C_4 U.vars.length C_c4, .slice C_5 U.exts.length C_c5, .slice C_6 U.priv.length C_c6, .string U.grand] 25))
  have RT5 := Lib.hid (RT4.out.below (below_alloc (Below.refl _ _) (.cells #[.string U.lang, .slice C_1 U.ext.length C_c1, .string U.script, .string U.region, .slice C_4 U.vars.length C_c4, .slice C_5 U.exts.length C_c5, .slice C_6 U.priv.length C_c6, .string U.grand] 25)))
  have RU5 := Lib.hid (RU4.out.below (below_alloc (Below.refl _ _) (.cells #[.string U.lang, .slice C_1 U.ext.length C_c1, .string U.script, .string U.region, .slice C_4 U.vars.length C_c4, .slice C_5 U.exts.length C_c5, .slice C_6 U.priv.length C_c6, .string U.grand] 25)))
  obtain ⟨W5, hW5⟩ : ∃ V, V = w4.alloc (.cells #[.string U.lang, .slice C_1 U.ext.length C_c1, .string U.script, .string U.region, .slice C_4 U.vars.length C_c4, .slice C_5 U.exts.length C_c5, .slice C_6 U.priv.length C_c6, .string U.grand] 25) := ⟨_, rfl⟩
  rw [← hW5]
  rw [← hW5] at KT5 KU5 HB5 RT5 RU5
  have EQ := Lib.hid (fun (w' : World) (h : Below W5.heap.size W5 w') => (⟨pw_cell_below h ((blk_cell KT5.out 0).trans rfl), pw_cell_below h ((blk_cell KT5.out 1).trans rfl), pw_cell_below h ((blk_cell KT5.out 2).trans rfl), pw_cell_below h ((blk_cell KT5.out 3).trans rfl), pw_cell_below h ((blk_cell KT5.out 4).trans rfl), pw_cell_below h ((blk_cell KT5.out 5).trans rfl), pw_cell_below h ((blk_cell KT5.out 6).trans rfl), pw_cell_below h ((blk_cell KT5.out 7).trans rfl), pw_cell_below h ((blk_cell KU5.out 0).trans rfl), pw_cell_below h ((blk_cell KU5.out 1).trans rfl), pw_cell_below h ((blk_cell KU5.out 2).trans rfl), pw_cell_below h ((blk_cell KU5.out 3).trans rfl), pw_cell_below h ((blk_cell KU5.out 4).trans rfl), pw_cell_below h ((blk_cell KU5.out 5).trans rfl), pw_cell_below h ((blk_cell KU5.out 6).trans rfl), pw_cell_below h ((blk_cell KU5.out 7).trans rfl)⟩ : w'.cell? ⟨w3.heap.size, 0, none⟩ = some (.string T.lang) ∧ w'.cell? ⟨w3.heap.size, 1, none⟩ = some (.slice B_1 T.ext.length B_c1) ∧ w'.cell? ⟨w3.heap.size, 2, none⟩ = some (.string T.script) ∧ w'.cell? ⟨w3.heap.size, 3, none⟩ = some (.string T.region) ∧ w'.cell? ⟨w3.heap.size, 4, none⟩ = some (.slice B_4 T.vars.length B_c4) ∧ w'.cell? ⟨w3.heap.size, 5, none⟩ = some (.slice B_5 T.exts.length B_c5) ∧ w'.cell? ⟨w3.heap.size, 6, none⟩ = some (.slice B_6 T.priv.length B_c6) ∧ w'.cell? ⟨w3.heap.size, 7, none⟩ = some (.string T.grand) ∧ w'.cell? ⟨w4.heap.size, 0, none⟩ = some (.string U.lang) ∧ w'.cell? ⟨w4.heap.size, 1, none⟩ = some (.slice C_1 U.ext.length C_c1) ∧ w'.cell? ⟨w4.heap.size, 2, none⟩ = some (.string U.script) ∧ w'.cell? ⟨w4.heap.size, 3, none⟩ = some (.string U.region) ∧ w'.cell? ⟨w4.heap.size, 4, none⟩ = some (.slice C_4 U.vars.length C_c4) ∧ w'.cell? ⟨w4.heap.size, 5, none⟩ = some (.slice C_5 U.exts.length C_c5) ∧ w'.cell? ⟨w4.heap.size, 6, none⟩ = some (.slice C_6 U.priv.length C_c6) ∧ w'.cell? ⟨w4.heap.size, 7, none⟩ = some (.string U.grand)))
  have Y0 := Lib.hid (Below.refl W5.heap.size W5)
  clear hW5 HB4 RT4 RU4 KT4
  have b1 : (rt == rt) = true := beq_self_eq_true _
  have b2 : (ru == ru) = true := beq_self_eq_true _
  refine start_ (n := 21) (S := fun w' => w'.cell? ⟨w3.heap.size, 0, none⟩ = some (.string T.lang) ∧ w'.cell? ⟨w3.heap.size, 1, none⟩ = some (.slice B_1 T.ext.length B_c1) ∧ w'.cell? ⟨w3.heap.size, 2, none⟩ = some (.string T.script) ∧ w'.cell? ⟨w3.heap.size, 3, none⟩ = some (.string T.region) ∧ w'.cell? ⟨w3.heap.size, 4, none⟩ = some (.slice B_4 T.vars.length B_c4) ∧ w'.cell? ⟨w3.heap.size, 5, none⟩ = some (.slice B_5 T.exts.length B_c5) ∧ w'.cell? ⟨w3.heap.size, 6, none⟩ = some (.slice B_6 T.priv.length B_c6) ∧ w'.cell? ⟨w3.heap.size, 7, none⟩ = some (.string T.grand) ∧ w'.cell? ⟨w4.heap.size, 0, none⟩ = some (.string U.lang) ∧ w'.cell? ⟨w4.heap.size, 1, none⟩ = some (.slice C_1 U.ext.length C_c1) ∧ w'.cell? ⟨w4.heap.size, 2, none⟩ = some (.string U.script) ∧ w'.cell? ⟨w4.heap.size, 3, none⟩ = some (.string U.region) ∧ w'.cell? ⟨w4.heap.size, 4, none⟩ = some (.slice C_4 U.vars.length C_c4) ∧ w'.cell? ⟨w4.heap.size, 5, none⟩ = some (.slice C_5 U.exts.length C_c5) ∧ w'.cell? ⟨w4.heap.size, 6, none⟩ = some (.slice C_6 U.priv.length C_c6) ∧ w'.cell? ⟨w4.heap.size, 7, none⟩ = some (.string U.grand)) (ds := []) #[false, false, false, false, false, false, false, false, false, false, false, false, false, false, false, false, false, false, false, false, false] (by kernel_rfl) rfl rfl (EQ.out _ (below_drew Y0.out)) (fun hHeld => ?_); refine with_tabW tr4_tab tr4_bits (fun HT_ HW_ => ?_)
  refine pu_ (i := 0) (N := some 13) HT_ (bl_ 21 1) ?_
  refine pu_ (i := 1) (N := some 14) HT_ (bl_ 21 3) ?_
  refine tk_ (i := 2) (N := some 15) HT_ HW_ (bl_ 21 7) hHeld ?_ (hy := by rintro w' ⟨s0, s1, s2, s3, s4, s5, s6, s7, s8, s9, s10, s11, s12, s13, s14, s15⟩; go_simp; with_reducible rfl)
  refine tk_ (i := 4) (N := some 17) HT_ HW_ (bl_ 21 23) hHeld ?_ (hy := by rintro w' ⟨s0, s1, s2, s3, s4, s5, s6, s7, s8, s9, s10, s11, s12, s13, s14, s15⟩; go_simp; with_reducible rfl)
  refine on_ (i := 3) (N := some 16) HT_ (bl_ 21 31) rfl rfl (fun K hK => ?_)
  refine gs_ Tryz.func8 #[.agg #[.string T.lang, .slice B_1 T.ext.length B_c1, .string T.script, .string T.region, .slice B_4 T.vars.length B_c4, .slice B_5 T.exts.length B_c5, .slice B_6 T.priv.length B_c6, .string T.grand]] ?_
  refine (HPT.out _ _ _ _ _ _ _ _ _ (HN.out.on (below_step HB5.out (below_drew Y0.out))) (RT5.out.below (below_drew Y0.out))).mono ?_
  rintro e v1 ⟨rfl, hb⟩
  have Y1 := Lib.hid (below_step (below_drew Y0.out) hb)
  clear hb
  refine ⟨_, rfl, ?_⟩
  refine hK.out _ _ (EQ.out _ Y1.out) (fun hHeld => ?_)
  clear hK K
  refine nm_ (some 16) ?_
  refine on_ (i := 5) (N := some 18) HT_ (bl_ 21 63) rfl rfl (fun K hK => ?_)
  refine gs_ Tryz.func9 #[.agg #[.string T.lang, .slice B_1 T.ext.length B_c1, .string T.script, .string T.region, .slice B_4 T.vars.length B_c4, .slice B_5 T.exts.length B_c5, .slice B_6 T.priv.length B_c6, .string T.grand]] ?_
  refine (HRT.out _ _ _ _ _ _ _ _ _ (RT5.out.below Y1.out)).mono ?_
  rintro e v2 ⟨rfl, hb⟩
  have Y2 := Lib.hid (below_step Y1.out hb)
  clear hb
  refine ⟨_, rfl, ?_⟩
  refine hK.out _ _ (EQ.out _ Y2.out) (fun hHeld => ?_)
  clear hK K
  refine nm_ (some 18) ?_
  refine pu_ (i := 6) (N := some 19) HT_ (bl_ 21 127) ?_
  refine pu_ (i := 7) (N := some 20) HT_ (bl_ 21 255) ?_
  refine pu_ (i := 8) (N := some 21) HT_ (bl_ 21 511) ?_
  refine tk_ (i := 9) (N := some 22) HT_ HW_ (bl_ 21 1023) hHeld ?_ (hy := by rintro w' ⟨s0, s1, s2, s3, s4, s5, s6, s7, s8, s9, s10, s11, s12, s13, s14, s15⟩; go_simp; with_reducible rfl)
  refine tk_ (i := 11) (N := some 24) HT_ HW_ (bl_ 21 3071) hHeld ?_ (hy := by rintro w' ⟨s0, s1, s2, s3, s4, s5, s6, s7, s8, s9, s10, s11, s12, s13, s14, s15⟩; go_simp; with_reducible rfl)
  refine on_ (i := 10) (N := some 23) HT_ (bl_ 21 4095) rfl rfl (fun K hK => ?_)
  refine gs_ Tryz.func8 #[.agg #[.string U.lang, .slice C_1 U.ext.length C_c1, .string U.script, .string U.region, .slice C_4 U.vars.length C_c4, .slice C_5 U.exts.length C_c5, .slice C_6 U.priv.length C_c6, .string U.grand]] ?_
  refine (HPU.out _ _ _ _ _ _ _ _ _ (HN.out.on (below_step HB5.out Y2.out)) (RU5.out.below Y2.out)).mono ?_
  rintro e v3 ⟨rfl, hb⟩
  have Y3 := Lib.hid (below_step Y2.out hb)
  clear hb
  refine ⟨_, rfl, ?_⟩
  refine hK.out _ _ (EQ.out _ Y3.out) (fun hHeld => ?_)
  clear hK K
  refine nm_ (some 23) ?_
  refine on_ (i := 12) (N := some 25) HT_ (bl_ 21 8191) rfl rfl (fun K hK => ?_)
  refine gs_ Tryz.func9 #[.agg #[.string U.lang, .slice C_1 U.ext.length C_c1, .string U.script, .string U.region, .slice C_4 U.vars.length C_c4, .slice C_5 U.exts.length C_c5, .slice C_6 U.priv.length C_c6, .string U.grand]] ?_
  refine (HRU.out _ _ _ _ _ _ _ _ _ (RU5.out.below Y3.out)).mono ?_
  rintro e v4 ⟨rfl, hb⟩
  have Y4 := Lib.hid (below_step Y3.out hb)
  clear hb
  refine ⟨_, rfl, ?_⟩
  refine hK.out _ _ (EQ.out _ Y4.out) (fun hHeld => ?_)
  clear hK K
  refine nm_ (some 25) ?_
  refine pu_ (i := 13) (N := some 26) HT_ (bl_ 21 16383) ?_
  refine pu_ (i := 14) (N := some 27) HT_ (bl_ 21 32767) ?_
  refine pu_ (i := 15) (N := some 28) HT_ (bl_ 21 65535) ?_
  refine pu_ (i := 16) (N := some 29) HT_ (bl_ 21 131071) ?_
  refine on_ (i := 17) (N := some 30) HT_ (bl_ 21 262143) rfl rfl (fun K hK => ?_)
  refine gs_ Tryz.func8 #[.agg #[.string ⟨#[]⟩, .slice none 0 0, .string ⟨#[]⟩, .string ⟨#[]⟩, .slice none 0 0, .slice none 0 0, .slice none 0 0, .string ⟨#[]⟩]] ?_
  refine (HPZ.out _ (HN.out.on (below_step HB5.out Y4.out))).mono ?_
  rintro e v5 ⟨rfl, hb⟩
  have Y5 := Lib.hid (below_step Y4.out hb)
  clear hb
  refine ⟨_, rfl, ?_⟩
  refine hK.out _ _ (EQ.out _ Y5.out) (fun hHeld => ?_)
  clear hK K
  refine nm_ (some 30) ?_
  refine pu_ (i := 18) (N := some 31) HT_ (bl_ 21 524287) ?_
  refine pu_ (i := 19) (N := some 32) HT_ (bl_ 21 1048575) ?_
  refine pu_ (i := 20) (N := some 4) HT_ (bl_ 21 2097151) ?_
  refine done_ (done_of HT_.out (by kernel_rfl)) ?_
  have HBE := Lib.hid (below_step HB5.out Y5.out)
  go_wp2
  go_ret
  exact ⟨rfl, HBE.out⟩
structure Slim (T : TG) : Prop where
  ext : T.ext.length ≤ 4
  vars : T.vars.length ≤ 6
  exts : T.exts.length ≤ 5
  priv : T.priv.length ≤ 4
  subs : ∀ x ∈ T.exts, x.f1.length ≤ 4
theorem Slim.len {T : TG} (h : Slim T) : (subL T.lang T.ext T.script T.region T.vars T.exts T.priv).length ≤ 100 := by
  have h1 := some1_le T.lang
  have h2 := some1_le T.script
  have h3 := some1_le T.region
  have h4 := flat5 T.exts h.subs
  have h5 := h.ext
  have h6 := h.vars
  have h7 := h.exts
  have h8 := h.priv
  unfold subL
  have hp : (if T.priv = [] then [] else (⟨#[120]⟩ : ByteArray) :: T.priv).length ≤ 5 := by
    split
    · simp
    · simp only [List.length_cons]; omega
  simp only [List.length_append] at hp ⊢
  omega
theorem Slim.text {T : TG} (h : Slim T) (t : TxtS T) : (textT T).length ≤ 1300 := by
  unfold textT subsT subsL
  split
  · refine Nat.le_trans (joinL_len 12 _ fun p hp => ?_) (by rw [List.length_map]; have := h.len; omega)
    obtain ⟨s, hs, rfl⟩ := List.mem_map.1 hp
    rw [bl_len]
    exact t.sub s hs
  · rw [map_bl_mk, join_split, bl_len]
    have := t.grand
    omega
theorem Small.slim {T : TG} (h : Small T) : Slim T := ⟨Nat.le_trans h.ext (by decide), h.vars, h.exts, h.priv, h.subs⟩
theorem few_small (X : TG) : Slim (fewT X) :=
  ⟨row4_len _, Nat.le_trans (row4_len _) (by decide), by show ((X.exts.take 4).map cutX).length ≤ 5; rw [List.length_map, List.length_take]; omega, row4_len _, fun x hx => by
    obtain ⟨y, _, rfl⟩ := List.mem_map.1 hx
    exact row4_len _⟩
theorem subs_size {T : TG} (ht : TxtS T) : ∀ s ∈ subsT T, s.size ≤ 1000000 := fun s hs => by
  have hs2 : s ∈ subsL T.lang T.ext T.script T.region T.vars T.exts T.priv T.grand := hs
  unfold subsL at hs2
  split at hs2
  · have := ht.sub s hs2; omega
  · obtain ⟨q, hq, rfl⟩ := List.mem_map.1 hs2
    have h1 := sp_small (bl T.grand) [] q (by rw [← split_sp]; exact hq)
    rw [bl_len] at h1
    have := ht.grand
    rw [mk_size]
    simp only [List.length_nil] at h1
    omega
theorem fit_of {T : TG} (f : FewS T) (t : TxtS T) (m : Slim T) : Fit T :=
  ⟨Nat.le_trans m.len (by decide), f.grand, subs_size t, Nat.le_trans t.lang (by decide), Nat.le_trans t.script (by decide), Nat.le_trans t.region (by decide), fun s h => Nat.le_trans (t.ext s h) (by decide), fun s h => Nat.le_trans (t.vars s h) (by decide), fun s h => Nat.le_trans (t.priv s h) (by decide), fun x h => Nat.le_trans (t.keys x h) (by decide), fun x h s hs => Nat.le_trans (t.subs x h s hs) (by decide), Nat.le_trans (m.text t) (by decide), Nat.le_trans f.ext (by decide), Nat.le_trans f.vars (by decide), Nat.le_trans f.exts (by decide), Nat.le_trans f.priv (by decide), fun x h => Nat.le_trans (f.subs x h) (by decide)⟩
theorem refRight_calls {T : TG} (f : FewS T) (t : TxtS T) (m : Slim T) : ∀ W A1 c1 A4 c4 A5 c5 A6 c6, RowsC W T A1 c1 A4 c4 A5 c5 A6 c6 → Calls Tryz.prog 9 #[.agg (tagCells T A1 c1 A4 c4 A5 c5 A6 c6)] W fun e W' => e = .returned (.bool (rightT T)) ∧ Below W.heap.size W W' := by
  obtain ⟨k, hk⟩ := (right_ev T f t (Nat.le_trans (m.text t) (by decide)) (subs_size t)).rounds
  exact fun W A1 c1 A4 c4 A5 c5 A6 c6 h => r6_Right.calls k _ _ _ _ _ _ _ _ _ _ _ _ _ _ _ _ _ W h.1.1 h.1.2 h.2.1.1 h.2.1.2 h.2.2.1.1 h.2.2.1.2 h.2.2.2.1 h.2.2.2.2 hk
theorem awake06_ev : Ev (fun k => isoglosslaw06_awake.f k) true := by
  unfold isoglosslaw06_awake.f
  refine Ev.bind (tag_Variant_ev _ (by decide)) ?_
  rw [show Iso.isVar (bl ⟨#[49, 57, 57, 52]⟩) = true from by decide]
  refine Ev.bind (tag_Variant_ev _ (by decide)) ?_
  rw [show Iso.isVar (bl ⟨#[97, 114, 101, 118]⟩) = false from by decide]
  refine Ev.bind (tag_Region_ev _ (by decide)) ?_
  rw [show Iso.isReg (bl ⟨#[52, 49, 57]⟩) = true from by decide]
  exact Ev.now _
abbrev TZ : TG := ⟨⟨#[]⟩, [], ⟨#[]⟩, ⟨#[]⟩, [], [], [], ⟨#[]⟩⟩
theorem nil_toL : (⟨#[]⟩ : ByteArray).toList = ([] : List UInt8) := by rw [Go.ByteArray.toList_eq]
theorem subL_zero : subL TZ.lang TZ.ext TZ.script TZ.region TZ.vars TZ.exts TZ.priv = [] := by
  have e : some1 (⟨#[]⟩ : ByteArray) = [] := by unfold some1; rw [if_pos nil_toL]
  unfold subL
  rw [show TZ.lang = ⟨#[]⟩ from rfl, show TZ.script = ⟨#[]⟩ from rfl, show TZ.region = ⟨#[]⟩ from rfl, e]
  rfl
theorem subsT_zero : subsT TZ = [] := by
  unfold subsT subsL
  rw [if_pos nil_toL]
  exact subL_zero
theorem fit_zero : Fit TZ := by
  refine ⟨by rw [subL_zero]; decide, by decide, fun s h => ?_, by decide, by decide, by decide, ?_, ?_, ?_, ?_, ?_, by unfold textT; rw [subsT_zero]; decide, by decide, by decide, by decide, by decide, ?_⟩
  · rw [subsT_zero] at h; cases h
  all_goals (intro x h; cases h)
theorem TagRight_calls (X : TG) (X1 : Option Addr) (d1 : Nat) (X4 : Option Addr) (d4 : Nat) (X5 : Option Addr) (d5 : Nat) (X6 : Option Addr) (d6 : Nat) (a0 a1 a2 a3 : Int) (A4 : Option Addr) (c4 : Nat) (l4 : List Int) (A5 : Option Addr) (c5 : Nat) (l5 : List Int) (A6 : Option Addr) (c6 : Nat) (l6 : List Int) (a7 : Int) (w : World) (hX : RowsC w X X1 d1 X4 d4 X5 d5 X6 d6) (h4 : IntsC w A4 c4 l4) (h5 : IntsC w A5 c5 l5) (h6 : IntsC w A6 c6 l6) (hN : NamesIn w) :
    Calls Tryz.prog 3 #[.agg (tagCells X X1 d1 X4 d4 X5 d5 X6 d6), .agg #[.int .i64 a0, .int .i64 a1, .int .i64 a2, .int .i64 a3, .slice A4 l4.length c4, .slice A5 l5.length c5, .slice A6 l6.length c6, .int .i64 a7]] w fun e w' => e = .returned (.bool true) ∧ Below w.heap.size w w' := by
  obtain ⟨B, hB, MD0⟩ := made_calls a0 a1 a2 a3 l4 l5 l6 a7
  have uf : FewS (spoiltT B (oddN a7)) := hB.fewS (oddN a7)
  have ut : TxtS (spoiltT B (oddN a7)) := baseT_txtS hB (oddN a7)
  have um : Slim (spoiltT B (oddN a7)) := (base_small hB (oddN a7)).slim
  generalize spoiltT B (oddN a7) = U at MD0 uf ut um
  obtain ⟨ka, hka⟩ := awake06_ev.rounds
  obtain ⟨kf, hkf⟩ := (few_ev X).rounds
  have tf := FewS.few X
  have tt := TxtS.few X
  have tm := few_small X
  refine tright_walk X X1 d1 X4 d4 X5 d5 X6 d6 a0 a1 a2 a3 A4 c4 l4 A5 c5 l5 A6 c6 l6 a7 w hX h4 h5 h6 hN (fewT X) U (rightT (fewT X)) (rightT U) ?_ ?_ ?_ ?_ ?_ ?_ ?_ ?_
  · exact fun W => (isoglosslaw06_awake.calls ka true W hka).mono fun e W' ⟨he, hd⟩ => ⟨he, hd.below⟩
  · exact fun W h => few_tag kf X (fewT X) _ _ _ _ _ _ _ _ W h hkf
  · exact fun W i4 i5 i6 => MD0 A4 c4 A5 c5 A6 c6 W i4 i5 i6
  · exact fun W A1 c1 A4 c4 A5 c5 A6 c6 hN h => Right_calls (fewT X) A1 c1 A4 c4 A5 c5 A6 c6 W h (fit_of tf tt tm) hN
  · exact refRight_calls tf tt tm
  · exact fun W A1 c1 A4 c4 A5 c5 A6 c6 hN h => Right_calls U A1 c1 A4 c4 A5 c5 A6 c6 W h (fit_of uf ut um) hN
  · exact refRight_calls uf ut um
  · intro W hN
    have hz : RowsC W TZ none 0 none 0 none 0 none 0 := ⟨⟨Kd.C_nil _ _, Nat.zero_le _⟩, ⟨Kd.C_nil _ _, Nat.zero_le _⟩, ⟨Kd.C_nil _ _, Nat.zero_le _⟩, ⟨Kd.C_nil _ _, Nat.zero_le _⟩⟩
    have := Right_calls TZ none 0 none 0 none 0 none 0 W hz fit_zero hN
    rw [show rightT TZ = false from by unfold rightT; rw [if_pos rfl, if_pos rfl]; simp] at this
    exact this
def isoglosslaw06_TagRight.f (k : Nat) (x0 : ByteArray) (x1 : List ByteArray) (x2 x3 : ByteArray) (x4 : List ByteArray) (x5 : List S40) (x6 : List ByteArray) (x7 : ByteArray) (a0 a1 a2 a3 : Int) (l4 l5 l6 : List Int) (a7 : Int) : Option Bool := some true
theorem isoglosslaw06_TagRight.calls (k : Nat) (x0 : ByteArray) (X1 : Option Addr) (d1 : Nat) (x1 : List ByteArray) (x2 x3 : ByteArray) (X4 : Option Addr) (d4 : Nat) (x4 : List ByteArray) (X5 : Option Addr) (d5 : Nat) (x5 : List S40) (X6 : Option Addr) (d6 : Nat) (x6 : List ByteArray) (x7 : ByteArray) (a0 a1 a2 a3 : Int) (A4 : Option Addr) (c4 : Nat) (l4 : List Int) (A5 : Option Addr) (c5 : Nat) (l5 : List Int) (A6 : Option Addr) (c6 : Nat) (l6 : List Int) (a7 : Int) (r : Bool) (w : World) (g1 : Kd.C Kd.string w X1 x1.length x1) (e1 : x1.length ≤ d1) (g4' : Kd.C Kd.string w X4 x4.length x4) (e4 : x4.length ≤ d4) (g5' : Kd.C k40 w X5 x5.length x5) (e5 : x5.length ≤ d5) (g6' : Kd.C Kd.string w X6 x6.length x6) (e6 : x6.length ≤ d6) (h4 : Kd.C (Kd.int .i64) w A4 l4.length l4) (g4 : l4.length ≤ c4) (h5 : Kd.C (Kd.int .i64) w A5 l5.length l5) (g5 : l5.length ≤ c5) (h6 : Kd.C (Kd.int .i64) w A6 l6.length l6) (g6 : l6.length ≤ c6) (hN : NamesIn w) (h : isoglosslaw06_TagRight.f k x0 x1 x2 x3 x4 x5 x6 x7 a0 a1 a2 a3 l4 l5 l6 a7 = some r) :
    Calls Tryz.prog 3 #[.agg #[.string x0, .slice X1 x1.length d1, .string x2, .string x3, .slice X4 x4.length d4, .slice X5 x5.length d5, .slice X6 x6.length d6, .string x7], .agg #[.int .i64 a0, .int .i64 a1, .int .i64 a2, .int .i64 a3, .slice A4 l4.length c4, .slice A5 l5.length c5, .slice A6 l6.length c6, .int .i64 a7]] w fun e w' => e = .returned (.bool r) ∧ Below w.heap.size w w' := by
  obtain rfl := Option.some.inj h
  exact TagRight_calls ⟨x0, x1, x2, x3, x4, x5, x6, x7⟩ X1 d1 X4 d4 X5 d5 X6 d6 a0 a1 a2 a3 A4 c4 l4 A5 c5 l5 A6 c6 l6 a7 w ⟨⟨g1, e1⟩, ⟨g4', e4⟩, ⟨g5', e5⟩, ⟨g6', e6⟩⟩ ⟨h4, g4⟩ ⟨h5, g5⟩ ⟨h6, g6⟩ hN
end Go.Proofs.YtljadeeoaoiilaaGreatDoor.P
