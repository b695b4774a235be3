/- The law ParsePrivate, walked. Condition: the error's variable and the names. -/
import Derived.Test.YtejnfbfikadpdaaGreatDoorHandLaw
import Derived.Test.YtejnfbfikadpdaaGreatDoorHandRec
namespace Go.Proofs.YtejnfbfikadpdaaGreatDoor.P
open Go.RowKit Go.Shelf Go.Proofs.YtejnfbfikadpdaaGreatDoorW.PrintWords Go.Proofs.YtejnfbfikadpdaaGreatDoorW.PrintLast Go.Proofs.YtejnfbfikadpdaaGreatDoorW.PrintMore Go.Proofs.YtejnfbfikadpdaaGreatDoor.Iso
set_option linter.unusedVariables false
set_option linter.unusedSimpArgs false
attribute [local go_sem] Oper.semAt_some
def pp9_T : Bool × List (List Nat × List Nat) := (true, [([], []), ([0], [0]), ([], []), ([2], [2]), ([3, 3], [3]), ([1, 4, 4], [1, 4]), ([5, 5, 0, 1, 2, 3, 4, 5], [5])])
def pp9_B : List Nat := [0, 1, 0, 4, 12, 31, 63]
theorem pp9_tab : rtab .any (opsOf Tryz.f6 9) = pp9_T := by kernel_rfl
theorem pp9_bits : waitsOk pp9_T.2 pp9_B = true := by kernel_rfl
def pp10_T : Bool × List (List Nat × List Nat) := (true, [([], []), ([0], [0]), ([], []), ([2], [2]), ([3, 3], [3]), ([1, 4, 4], [1, 4]), ([5, 5, 0, 1, 2, 3, 4, 5], [5])])
def pp10_B : List Nat := [0, 1, 0, 4, 12, 31, 63]
theorem pp10_tab : rtab .any (opsOf Tryz.f6 10) = pp10_T := by kernel_rfl
theorem pp10_bits : waitsOk pp10_T.2 pp10_B = true := by kernel_rfl
theorem blk_alloc1 {w : World} {g : Nat} {o : Obj} (h : w.heap[g]? = some o) (q : Obj) : (w.alloc q).heap[g]? = some o := blk_on h (below_alloc (Below.refl _ _) _)
theorem cells8p {w : World} {g : Nat} {t : TypeId} {x0 x1 x2 x3 x4 x5 x6 x7 : Value} (h : w.heap[g]? = some (.cells #[x0, x1, x2, x3, x4, x5, x6, x7] t (0, 0))) : w.cell? ⟨g, 0, none⟩ = some x0 ∧ w.cell? ⟨g, 1, none⟩ = some x1 ∧ w.cell? ⟨g, 2, none⟩ = some x2 ∧ w.cell? ⟨g, 3, none⟩ = some x3 ∧ w.cell? ⟨g, 4, none⟩ = some x4 ∧ w.cell? ⟨g, 5, none⟩ = some x5 ∧ w.cell? ⟨g, 6, none⟩ = some x6 ∧ w.cell? ⟨g, 7, none⟩ = some x7 :=
  ⟨(blk_cell h 0).trans rfl, (blk_cell h 1).trans rfl, (blk_cell h 2).trans rfl, (blk_cell h 3).trans rfl, (blk_cell h 4).trans rfl, (blk_cell h 5).trans rfl, (blk_cell h 6).trans rfl, (blk_cell h 7).trans rfl⟩
set_option maxRecDepth 100000 in
set_option maxHeartbeats 16000000 in
theorem private_good (s0 s x : ByteArray) (a0 a1 a2 a3 : Int) (A4 : Option Addr) (c4 : Nat) (l4 : List Int) (A5 : Option Addr) (c5 : Nat) (l5 : List Int) (A6 : Option Addr) (c6 : Nat) (l6 : List Int) (a7 : Int) (w : World) (h4 : IntsC w A4 c4 l4) (h5 : IntsC w A5 c5 l5) (hG : Given w) (L : List ByteArray) (B : TG) (TA TB : TG)
    (hss : s.size ≤ 80) (hxs : x.size ≤ 100000) (ca cb : Int) (hcb : decide (cb < 0) = true)
    (SH : ∀ W, Calls Tryz.prog 18 #[.string s0] W fun e W' => e = .returned (.string s) ∧ Below W.heap.size W W')
    (CK : ∀ W, Calls Tryz.prog 21 #[.string s] W fun e W' => e = .returned (.agg #[.int .i64 ca, .int .i64 cb]) ∧ Below W.heap.size W W')
    (MD : ∀ W, IntsC W A4 c4 l4 → IntsC W A5 c5 l5 → Calls Tryz.prog 11 #[.agg #[.int .i64 a0, .int .i64 a1, .int .i64 a2, .int .i64 a3, .slice A4 l4.length c4, .slice A5 l5.length c5, .slice none 0 0, .int .i64 0]] W fun e W' => ∃ A1 c1 A4 c4 A5 c5 A6 c6, e = .returned (.agg (tagCells B A1 c1 A4 c4 A5 c5 A6 c6)) ∧ RowsC W' B A1 c1 A4 c4 A5 c5 A6 c6 ∧ Below W.heap.size W W')
    (TX : ∀ W A1 c1 A4 c4 A5 c5 A6 c6, RowsC W B A1 c1 A4 c4 A5 c5 A6 c6 → Calls Tryz.prog 12 #[.agg (tagCells B A1 c1 A4 c4 A5 c5 A6 c6)] W fun e W' => e = .returned (.string x) ∧ Below W.heap.size W W')
    (SP : ∀ W, Calls Tryz.prog 23 #[.string (mk (low (bl s)))] W fun e W' => ∃ A c, e = .returned (.slice A L.length c) ∧ (Kd.C Kd.string W' A L.length L ∧ L.length ≤ c) ∧ Below W.heap.size W W')
    (P1 : ∀ W, NamesIn W → Calls Tryz.prog 13 #[.string (⟨#[120, 45]⟩ ++ s)] W fun e W' => ∃ A1 c1 A4 c4 A5 c5 A6 c6, e = .returned (.tuple #[.agg (tagCells TA A1 c1 A4 c4 A5 c5 A6 c6), .nilIface]) ∧ OwnT W' W.heap.size (.slice A1 TA.ext.length c1) (.slice A4 TA.vars.length c4) (.slice A5 TA.exts.length c5) (.slice A6 TA.priv.length c6) TA.ext TA.vars TA.exts TA.priv ∧ Below W.heap.size W W') (P2 : ∀ W, NamesIn W → Calls Tryz.prog 13 #[.string (x ++ ⟨#[45, 120, 45]⟩ ++ s)] W fun e W' => ∃ A1 c1 A4 c4 A5 c5 A6 c6, e = .returned (.tuple #[.agg (tagCells TB A1 c1 A4 c4 A5 c5 A6 c6), .nilIface]) ∧ RowsC W' TB A1 c1 A4 c4 A5 c5 A6 c6 ∧ Below W.heap.size W W')
    (lA : TA.lang = ⟨#[]⟩) (lB : TB.lang = B.lang) (pA : TA.priv = L) (pB : TB.priv = L) :
    Calls Tryz.prog 6 #[.string s0, .agg #[.int .i64 a0, .int .i64 a1, .int .i64 a2, .int .i64 a3, .slice A4 l4.length c4, .slice A5 l5.length c5, .slice A6 l6.length c6, .int .i64 a7]] w fun e w' => e = .returned (.bool true) ∧ Below w.heap.size w w' := by
  have HS4 := Lib.hid h4
  have HS5 := Lib.hid h5
  have HG := Lib.hid hG
  have HSH := Lib.hid SH
  have HCK := Lib.hid CK
  have HMD := Lib.hid MD
  have HTX := Lib.hid TX
  have HSP := Lib.hid SP
  have HP1 := Lib.hid P1
  have HP2 := Lib.hid P2
  have LA := Lib.hid lA
  have LB := Lib.hid lB
  have PA := Lib.hid pA
  have PB := Lib.hid pB
  have HB1 := Lib.hid (below_alloc (Below.refl w.heap.size w) (.cells #[.int .i64 a0, .int .i64 a1, .int .i64 a2, .int .i64 a3, .slice A4 l4.length c4, .slice A5 l5.length c5, .slice A6 l6.length c6, .int .i64 a7] 24))
  have K1 := Lib.hid (new_blk w (.cells #[.int .i64 a0, .int .i64 a1, .int .i64 a2, .int .i64 a3, .slice A4 l4.length c4, .slice A5 l5.length c5, .slice A6 l6.length c6, .int .i64 a7] 24))
  have LW := Lib.hid (fun W : World => lower02_calls s (by omega) W)
  have z1 : 2 + s.size ≤ 9223372036854775807 := by omega
  have z2 : x.size + 3 ≤ 9223372036854775807 := by omega
  have z3 : x.size + 3 + s.size ≤ 9223372036854775807 := by omega
  clear h4 h5 hG SH CK MD TX SP P1 P2 hss hxs lA lB pA pB
  have hfd : ∀ W : World, Sem.run Tryz.prog (Instr.field 51 (.agg #[.int .i64 ca, .int .i64 cb]) 1) W = .ok (.int .i64 cb) W := fun _ => by kernel_rfl
  go_enter Tryz.func6, Tryz.ntmps6
  go_upto_region 5 with (first | (go_at_call 10; refine (awake_calls _ (HG.out.below HB1.out)).mono ?_; rintro e w2 ⟨rfl, hb⟩; have HB2 := Lib.hid (below_step HB1.out hb); have K2 := Lib.hid (blk_on K1.out hb); clear hb HB1 K1) | (go_at_call 18; refine (HSH.out _).mono ?_; rintro e w3 ⟨rfl, hb⟩; have HB3 := Lib.hid (below_step HB2.out hb); have K3 := Lib.hid (blk_on K2.out hb); clear hb HB2 K2 HSH) | (go_at_call 21; refine (HCK.out _).mono ?_; rintro e w4 ⟨rfl, hb⟩; have HB4 := Lib.hid (below_step HB3.out hb); have K4 := Lib.hid (blk_on K3.out hb); clear hb HB3 K3 HCK) | (go_at_call 13; refine (HP1.out _ (HG.out.below HB4.out).names).mono ?_; rintro e w5 ⟨A_1, A_c1, A_4, A_c4, A_5, A_c5, A_6, A_c6, rfl, hO, hb⟩; have HB5 := Lib.hid (below_step HB4.out hb); have K5 := Lib.hid (blk_on K4.out hb); have OA5 := Lib.hid hO; clear hb hO HB4 K4 HP1))
  obtain ⟨V5, hV5⟩ : ∃ V, V = w5.alloc (.cells #[.string TA.lang, .slice A_1 TA.ext.length A_c1, .string TA.script, .string TA.region, .slice A_4 TA.vars.length A_c4, .slice A_5 TA.exts.length A_c5, .slice A_6 TA.priv.length A_c6, .string TA.grand] 29) := ⟨_, rfl⟩
  rw [← hV5]
  have BV5 := Lib.hid (show Below w.heap.size w V5 by rw [hV5]; exact below_alloc HB5.out _)
  have KV5 := Lib.hid (show V5.heap[w.heap.size]? = some (.cells #[.int .i64 a0, .int .i64 a1, .int .i64 a2, .int .i64 a3, .slice A4 l4.length c4, .slice A5 l5.length c5, .slice A6 l6.length c6, .int .i64 a7] 24 (0, 0)) by rw [hV5]; exact blk_alloc1 K5.out _)
  have NA5 := Lib.hid (show V5.heap[w5.heap.size]? = some (.cells #[.string TA.lang, .slice A_1 TA.ext.length A_c1, .string TA.script, .string TA.region, .slice A_4 TA.vars.length A_c4, .slice A_5 TA.exts.length A_c5, .slice A_6 TA.priv.length A_c6, .string TA.grand] 29 (0, 0)) by rw [hV5]; exact new_blk w5 _)
  have EA5 := Lib.hid (show OwnT V5 w4.heap.size (.slice A_1 TA.ext.length A_c1) (.slice A_4 TA.vars.length A_c4) (.slice A_5 TA.exts.length A_c5) (.slice A_6 TA.priv.length A_c6) TA.ext TA.vars TA.exts TA.priv by rw [hV5]; exact OA5.out.below (below_alloc (Below.refl _ _) _))
  clear hV5 HB5 K5 OA5
  have f7 := (blk_cell KV5.out 7).trans rfl
  have g7 := blk_frozen KV5.out 7
  go_upto_region 6 with (fail)
  clear f7 g7
  obtain ⟨V6, hV6⟩ : ∃ V, V = V5.setCell ⟨w.heap.size, 7, none⟩ (.int .i64 0) := ⟨_, rfl⟩
  rw [← hV6]
  have BV6 := Lib.hid (show Below w.heap.size w V6 by rw [hV6]; exact BV5.out.setCell (p := ⟨w.heap.size, 7, none⟩) (Nat.le_refl _) _)
  have KV6 := Lib.hid (show V6.heap[w.heap.size]? = some (.cells #[.int .i64 a0, .int .i64 a1, .int .i64 a2, .int .i64 a3, .slice A4 l4.length c4, .slice A5 l5.length c5, .slice A6 l6.length c6, .int .i64 0] 24 (0, 0)) by rw [hV6]; exact blk_put KV5.out 7 _ rfl)
  have NA6 := Lib.hid (show V6.heap[w5.heap.size]? = some (.cells #[.string TA.lang, .slice A_1 TA.ext.length A_c1, .string TA.script, .string TA.region, .slice A_4 TA.vars.length A_c4, .slice A_5 TA.exts.length A_c5, .slice A_6 TA.priv.length A_c6, .string TA.grand] 29 (0, 0)) by rw [hV6]; exact blk_far NA5.out (p := ⟨w.heap.size, 7, none⟩) (blk_ne NA5.out KV5.out (by decide)) _)
  have EA6 := Lib.hid (show OwnT V6 w4.heap.size (.slice A_1 TA.ext.length A_c1) (.slice A_4 TA.vars.length A_c4) (.slice A_5 TA.exts.length A_c5) (.slice A_6 TA.priv.length A_c6) TA.ext TA.vars TA.exts TA.priv by rw [hV6]; exact EA5.out.setO KV5.out 7 _)
  clear hV6 BV5 KV5 NA5 EA5
  have f6 := (blk_cell KV6.out 6).trans rfl
  have g6 := blk_frozen KV6.out 6
  go_upto_region 7 with (fail)
  clear f6 g6
  obtain ⟨V7, hV7⟩ : ∃ V, V = V6.setCell ⟨w.heap.size, 6, none⟩ (.slice none 0 0) := ⟨_, rfl⟩
  rw [← hV7]
  have BV7 := Lib.hid (show Below w.heap.size w V7 by rw [hV7]; exact BV6.out.setCell (p := ⟨w.heap.size, 6, none⟩) (Nat.le_refl _) _)
  have KV7 := Lib.hid (show V7.heap[w.heap.size]? = some (.cells #[.int .i64 a0, .int .i64 a1, .int .i64 a2, .int .i64 a3, .slice A4 l4.length c4, .slice A5 l5.length c5, .slice none 0 0, .int .i64 0] 24 (0, 0)) by rw [hV7]; exact blk_put KV6.out 6 _ rfl)
  have NA7 := Lib.hid (show V7.heap[w5.heap.size]? = some (.cells #[.string TA.lang, .slice A_1 TA.ext.length A_c1, .string TA.script, .string TA.region, .slice A_4 TA.vars.length A_c4, .slice A_5 TA.exts.length A_c5, .slice A_6 TA.priv.length A_c6, .string TA.grand] 29 (0, 0)) by rw [hV7]; exact blk_far NA6.out (p := ⟨w.heap.size, 6, none⟩) (blk_ne NA6.out KV6.out (by decide)) _)
  have EA7 := Lib.hid (show OwnT V7 w4.heap.size (.slice A_1 TA.ext.length A_c1) (.slice A_4 TA.vars.length A_c4) (.slice A_5 TA.exts.length A_c5) (.slice A_6 TA.priv.length A_c6) TA.ext TA.vars TA.exts TA.priv by rw [hV7]; exact EA6.out.setO KV6.out 6 _)
  clear hV7 BV6 KV6 NA6 EA6
  obtain ⟨q0, q1, q2, q3, q4, q5, q6, q7⟩ := cells8p KV7.out
  go_wp2_with (first | (go_at_call 11; refine (HMD.out _ (HS4.out.below BV7.out) (HS5.out.below BV7.out)).mono ?_; rintro e w8 ⟨B_1, B_c1, B_4, B_c4, B_5, B_c5, B_6, B_c6, rfl, hR, hb⟩; have BV8 := Lib.hid (below_step BV7.out hb); have NA8 := Lib.hid (blk_on NA7.out hb); have EA8 := Lib.hid (EA7.out.below hb); have RB8 := Lib.hid hR; clear q0 q1 q2 q3 q4 q5 q6 q7 hb hR BV7 NA7 EA7 KV7 HS4 HS5 HMD; obtain ⟨q0, q1, q2, q3, q4, q5, q6, q7⟩ := cells8p (new_blk w8 (.cells #[.string B.lang, .slice B_1 B.ext.length B_c1, .string B.script, .string B.region, .slice B_4 B.vars.length B_c4, .slice B_5 B.exts.length B_c5, .slice B_6 B.priv.length B_c6, .string B.grand] 29))) | (go_at_call 12; refine (HTX.out _ _ _ _ _ _ _ _ _ (RB8.out.below (below_alloc (Below.refl _ _) _))).mono ?_; rintro e w9 ⟨rfl, hb⟩; have BV9 := Lib.hid (below_step (below_alloc BV8.out _) hb); have NA9 := Lib.hid (blk_on (blk_alloc1 NA8.out _) hb); have NB9 := Lib.hid (blk_on (new_blk w8 _) hb); have EA9 := Lib.hid ((EA8.out.below (below_alloc (Below.refl _ _) _)).below hb); clear q0 q1 q2 q3 q4 q5 q6 q7 hb BV8 NA8 EA8 RB8 HTX) | (go_at_call 13; refine (HP2.out _ (HG.out.below BV9.out).names).mono ?_; rintro e w10 ⟨C_1, C_c1, C_4, C_c4, C_5, C_c5, C_6, C_c6, rfl, hR, hb⟩; have BV10 := Lib.hid (below_step BV9.out hb); have NA10 := Lib.hid (blk_on NA9.out hb); have NB10 := Lib.hid (blk_on NB9.out hb); have EA10 := Lib.hid (EA9.out.below hb); have RC10 := Lib.hid hR; clear hb hR BV9 NA9 NB9 EA9 HP2))
  obtain ⟨V11, hV11⟩ : ∃ V, V = w10.alloc (.cells #[.string TB.lang, .slice C_1 TB.ext.length C_c1, .string TB.script, .string TB.region, .slice C_4 TB.vars.length C_c4, .slice C_5 TB.exts.length C_c5, .slice C_6 TB.priv.length C_c6, .string TB.grand] 29) := ⟨_, rfl⟩
  rw [← hV11]
  have BV11 := Lib.hid (show Below w.heap.size w V11 by rw [hV11]; exact below_alloc BV10.out _)
  have NA11 := Lib.hid (show V11.heap[w5.heap.size]? = some (.cells #[.string TA.lang, .slice A_1 TA.ext.length A_c1, .string TA.script, .string TA.region, .slice A_4 TA.vars.length A_c4, .slice A_5 TA.exts.length A_c5, .slice A_6 TA.priv.length A_c6, .string TA.grand] 29 (0, 0)) by rw [hV11]; exact blk_alloc1 NA10.out _)
  have NB11 := Lib.hid (show V11.heap[w8.heap.size]? = some (.cells #[.string B.lang, .slice B_1 B.ext.length B_c1, .string B.script, .string B.region, .slice B_4 B.vars.length B_c4, .slice B_5 B.exts.length B_c5, .slice B_6 B.priv.length B_c6, .string B.grand] 29 (0, 0)) by rw [hV11]; exact blk_alloc1 NB10.out _)
  have NC11 := Lib.hid (show V11.heap[w10.heap.size]? = some (.cells #[.string TB.lang, .slice C_1 TB.ext.length C_c1, .string TB.script, .string TB.region, .slice C_4 TB.vars.length C_c4, .slice C_5 TB.exts.length C_c5, .slice C_6 TB.priv.length C_c6, .string TB.grand] 29 (0, 0)) by rw [hV11]; exact new_blk w10 _)
  have EA11 := Lib.hid (show OwnT V11 w4.heap.size (.slice A_1 TA.ext.length A_c1) (.slice A_4 TA.vars.length A_c4) (.slice A_5 TA.exts.length A_c5) (.slice A_6 TA.priv.length A_c6) TA.ext TA.vars TA.exts TA.priv by rw [hV11]; exact EA10.out.below (below_alloc (Below.refl _ _) _))
  have RC11 := Lib.hid (show RowsC V11 TB C_1 C_c1 C_4 C_c4 C_5 C_c5 C_6 C_c6 by rw [hV11]; exact RC10.out.below (below_alloc (Below.refl _ _) _))
  clear hV11 BV10 NA10 NB10 EA10 RC10
  have EQ := Lib.hid (fun (V : World) (h : Below V11.heap.size V11 V) => (⟨pw_cell_below h ((blk_cell NA11.out 6).trans rfl), pw_cell_below h ((blk_cell NC11.out 6).trans rfl)⟩ : V.cell? ⟨w5.heap.size, 6, none⟩ = some (.slice A_6 TA.priv.length A_c6) ∧ V.cell? ⟨w10.heap.size, 6, none⟩ = some (.slice C_6 TB.priv.length C_c6)))
  have Y0 := Lib.hid (Below.refl V11.heap.size V11)
  refine start_ (n := 7) (S := fun w' => w'.cell? ⟨w5.heap.size, 6, none⟩ = some (.slice A_6 TA.priv.length A_c6) ∧ w'.cell? ⟨w10.heap.size, 6, none⟩ = some (.slice C_6 TB.priv.length C_c6)) (ds := []) #[false, false, false, false, false, false, false] (by kernel_rfl) rfl rfl (EQ.out _ (below_drew Y0.out)) (fun hHeld => ?_); refine with_tabW pp9_tab pp9_bits (fun HT_ HW_ => ?_)
  refine pure_ (i := 0) (N := some 40) (v := ?_) (a' := ?_) #[true, false, false, false, false, false, false] rfl rfl (any_of HT_.out (by kernel_rfl)) (fun _ _ _ h => h) (Or.inl ⟨by rfl, ?_⟩) ?_ ?_
  rotate_left
  · intro w'
    go_simp
    with_reducible rfl
  rotate_left
  · simp only [Act.put, List.setIfInBounds_toArray, List.set_cons_zero, List.set_cons_succ, i64_w, i32_w]
    rfl
  refine take_ (i := 1) (N := some 41) (v := ?_) (a' := ?_) #[true, true, false, false, false, false, false] rfl rfl (take_ofW HT_.out HW_.out (by kernel_rfl)) (fun _ _ _ h => h) (Or.inl ⟨by rfl, ?_⟩) hHeld ?_ ?_
  rotate_left
  · rintro w' ⟨s0, s1⟩
    go_simp
    with_reducible rfl
  rotate_left
  · simp only [Act.put, List.setIfInBounds_toArray, List.set_cons_zero, List.set_cons_succ, i64_w, i32_w]
    rfl
  refine pure_ (i := 2) (N := some 42) (v := ?_) (a' := ?_) #[true, true, true, false, false, false, false] rfl rfl (any_of HT_.out (by kernel_rfl)) (fun _ _ _ h => h) (Or.inl ⟨by rfl, ?_⟩) ?_ ?_
  rotate_left
  · intro w'
    go_simp
    with_reducible rfl
  rotate_left
  · simp only [Act.put, List.setIfInBounds_toArray, List.set_cons_zero, List.set_cons_succ, i64_w, i32_w]
    rfl
  refine one_ (i := 3) (N := some 43) #[true, true, true, true, false, false, false] rfl rfl (one_of HT_.out (by kernel_rfl)) (by decide) (fun K hK => ?_)
  refine goes_ Tryz.func24 (by kernel_rfl) rfl #[.string s] (by rfl) rfl rfl (by simp only [List.map_toArray, List.map_cons, List.map_nil]; rfl) ?_
  refine (LW.out _).mono ?_
  rintro e u1a ⟨rfl, hb⟩
  have Y1a := Lib.hid (below_step (below_drew Y0.out) hb)
  clear hb
  refine ⟨_, rfl, ?_⟩
  refine hK.out _ _ (EQ.out _ Y1a.out) (fun hHeld => ?_)
  clear hK K
  refine norm_ (a' := ?_) ?_ ?_
  rotate_left
  · show Act.put _ (some 43) _ = _
    simp only [Act.put, List.setIfInBounds_toArray, List.set_cons_zero, List.set_cons_succ, i64_w, i32_w]
    rfl
  refine one_ (i := 4) (N := some 44) #[true, true, true, true, true, false, false] rfl rfl (one_of HT_.out (by kernel_rfl)) (by decide) (fun K hK => ?_)
  refine goes_ Tryz.func23 (by kernel_rfl) rfl #[.string (mk (low (bl s)))] (by rfl) rfl rfl (by simp only [List.map_toArray, List.map_cons, List.map_nil]; rfl) ?_
  refine (HSP.out _).mono ?_
  rintro e u1b ⟨D1, dc1, rfl, hC, hb⟩
  have Y1b := Lib.hid (below_step Y1a.out hb)
  have HD1 := Lib.hid hC
  clear hb hC
  refine ⟨_, rfl, ?_⟩
  refine hK.out _ _ (EQ.out _ Y1b.out) (fun hHeld => ?_)
  clear hK K
  refine norm_ (a' := ?_) ?_ ?_
  rotate_left
  · show Act.put _ (some 44) _ = _
    simp only [Act.put, List.setIfInBounds_toArray, List.set_cons_zero, List.set_cons_succ, i64_w, i32_w]
    rfl
  refine one_ (i := 5) (N := some 45) #[true, true, true, true, true, true, false] rfl rfl (one_of HT_.out (by kernel_rfl)) (by decide) (fun K hK => ?_)
  refine goes_ Tryz.func22 (by kernel_rfl) rfl #[.slice A_6 TA.priv.length A_c6, .slice D1 L.length dc1] (by rfl) rfl rfl (by simp only [List.map_toArray, List.map_cons, List.map_nil]; rfl) ?_
  refine (same04_calls (⟨Kd.C_below (Kd.R_reads' EA11.out.2.2.2).2.2 Y1b.out, (Kd.R_reads' EA11.out.2.2.2).2.1⟩) HD1.out).mono ?_
  rintro e u1c ⟨rfl, hb⟩
  have Y1c := Lib.hid (below_step Y1b.out hb)
  clear hb
  refine ⟨_, rfl, ?_⟩
  refine hK.out _ _ (EQ.out _ Y1c.out) (fun hHeld => ?_)
  clear hK K
  refine norm_ (a' := ?_) ?_ ?_
  rotate_left
  · show Act.put _ (some 45) _ = _
    simp only [Act.put, List.setIfInBounds_toArray, List.set_cons_zero, List.set_cons_succ, i64_w, i32_w]
    rfl
  refine pure_ (i := 6) (N := some 12) (v := ?_) (a' := ?_) #[true, true, true, true, true, true, true] rfl rfl (any_of HT_.out (by kernel_rfl)) (fun _ _ _ h => h) (Or.inl ⟨by rfl, ?_⟩) ?_ ?_
  rotate_left
  · intro w'
    go_simp
    with_reducible rfl
  rotate_left
  · simp only [Act.put, List.setIfInBounds_toArray, List.set_cons_zero, List.set_cons_succ, i64_w, i32_w]
    rfl
  refine done_ (done_of HT_.out (by kernel_rfl)) ?_
  go_wp2
  refine start_ (n := 7) (S := fun w' => w'.cell? ⟨w5.heap.size, 6, none⟩ = some (.slice A_6 TA.priv.length A_c6) ∧ w'.cell? ⟨w10.heap.size, 6, none⟩ = some (.slice C_6 TB.priv.length C_c6)) (ds := []) #[false, false, false, false, false, false, false] (by kernel_rfl) rfl rfl (EQ.out _ (below_drew Y1c.out)) (fun hHeld => ?_); refine with_tabW pp10_tab pp10_bits (fun HT_ HW_ => ?_)
  refine pure_ (i := 0) (N := some 46) (v := ?_) (a' := ?_) #[true, false, false, false, false, false, false] rfl rfl (any_of HT_.out (by kernel_rfl)) (fun _ _ _ h => h) (Or.inl ⟨by rfl, ?_⟩) ?_ ?_
  rotate_left
  · intro w'
    go_simp
    with_reducible rfl
  rotate_left
  · simp only [Act.put, List.setIfInBounds_toArray, List.set_cons_zero, List.set_cons_succ, i64_w, i32_w]
    rfl
  refine take_ (i := 1) (N := some 47) (v := ?_) (a' := ?_) #[true, true, false, false, false, false, false] rfl rfl (take_ofW HT_.out HW_.out (by kernel_rfl)) (fun _ _ _ h => h) (Or.inl ⟨by rfl, ?_⟩) hHeld ?_ ?_
  rotate_left
  · rintro w' ⟨s0, s1⟩
    go_simp
    with_reducible rfl
  rotate_left
  · simp only [Act.put, List.setIfInBounds_toArray, List.set_cons_zero, List.set_cons_succ, i64_w, i32_w]
    rfl
  refine pure_ (i := 2) (N := some 48) (v := ?_) (a' := ?_) #[true, true, true, false, false, false, false] rfl rfl (any_of HT_.out (by kernel_rfl)) (fun _ _ _ h => h) (Or.inl ⟨by rfl, ?_⟩) ?_ ?_
  rotate_left
  · intro w'
    go_simp
    with_reducible rfl
  rotate_left
  · simp only [Act.put, List.setIfInBounds_toArray, List.set_cons_zero, List.set_cons_succ, i64_w, i32_w]
    rfl
  refine one_ (i := 3) (N := some 49) #[true, true, true, true, false, false, false] rfl rfl (one_of HT_.out (by kernel_rfl)) (by decide) (fun K hK => ?_)
  refine goes_ Tryz.func24 (by kernel_rfl) rfl #[.string s] (by rfl) rfl rfl (by simp only [List.map_toArray, List.map_cons, List.map_nil]; rfl) ?_
  refine (LW.out _).mono ?_
  rintro e u2a ⟨rfl, hb⟩
  have Y2a := Lib.hid (below_step (below_drew Y1c.out) hb)
  clear hb
  refine ⟨_, rfl, ?_⟩
  refine hK.out _ _ (EQ.out _ Y2a.out) (fun hHeld => ?_)
  clear hK K
  refine norm_ (a' := ?_) ?_ ?_
  rotate_left
  · show Act.put _ (some 49) _ = _
    simp only [Act.put, List.setIfInBounds_toArray, List.set_cons_zero, List.set_cons_succ, i64_w, i32_w]
    rfl
  refine one_ (i := 4) (N := some 50) #[true, true, true, true, true, false, false] rfl rfl (one_of HT_.out (by kernel_rfl)) (by decide) (fun K hK => ?_)
  refine goes_ Tryz.func23 (by kernel_rfl) rfl #[.string (mk (low (bl s)))] (by rfl) rfl rfl (by simp only [List.map_toArray, List.map_cons, List.map_nil]; rfl) ?_
  refine (HSP.out _).mono ?_
  rintro e u2b ⟨D2, dc2, rfl, hC, hb⟩
  have Y2b := Lib.hid (below_step Y2a.out hb)
  have HD2 := Lib.hid hC
  clear hb hC
  refine ⟨_, rfl, ?_⟩
  refine hK.out _ _ (EQ.out _ Y2b.out) (fun hHeld => ?_)
  clear hK K
  refine norm_ (a' := ?_) ?_ ?_
  rotate_left
  · show Act.put _ (some 50) _ = _
    simp only [Act.put, List.setIfInBounds_toArray, List.set_cons_zero, List.set_cons_succ, i64_w, i32_w]
    rfl
  refine one_ (i := 5) (N := some 51) #[true, true, true, true, true, true, false] rfl rfl (one_of HT_.out (by kernel_rfl)) (by decide) (fun K hK => ?_)
  refine goes_ Tryz.func22 (by kernel_rfl) rfl #[.slice C_6 TB.priv.length C_c6, .slice D2 L.length dc2] (by rfl) rfl rfl (by simp only [List.map_toArray, List.map_cons, List.map_nil]; rfl) ?_
  refine (same04_calls (⟨Kd.C_below RC11.out.2.2.2.1 Y2b.out, RC11.out.2.2.2.2⟩) HD2.out).mono ?_
  rintro e u2c ⟨rfl, hb⟩
  have Y2c := Lib.hid (below_step Y2b.out hb)
  clear hb
  refine ⟨_, rfl, ?_⟩
  refine hK.out _ _ (EQ.out _ Y2c.out) (fun hHeld => ?_)
  clear hK K
  refine norm_ (a' := ?_) ?_ ?_
  rotate_left
  · show Act.put _ (some 51) _ = _
    simp only [Act.put, List.setIfInBounds_toArray, List.set_cons_zero, List.set_cons_succ, i64_w, i32_w]
    rfl
  refine pure_ (i := 6) (N := some 13) (v := ?_) (a' := ?_) #[true, true, true, true, true, true, true] rfl rfl (any_of HT_.out (by kernel_rfl)) (fun _ _ _ h => h) (Or.inl ⟨by rfl, ?_⟩) ?_ ?_
  rotate_left
  · intro w'
    go_simp
    with_reducible rfl
  rotate_left
  · simp only [Act.put, List.setIfInBounds_toArray, List.set_cons_zero, List.set_cons_succ, i64_w, i32_w]
    rfl
  refine done_ (done_of HT_.out (by kernel_rfl)) ?_
  have pa1 : decide (TA.priv = L) = true := decide_eq_true PA.out
  have pb1 : decide (TB.priv = L) = true := decide_eq_true PB.out
  have la0 := LA.out
  have lb0 := LB.out
  have r0 := pw_cell_below Y2c.out ((blk_cell NA11.out 0).trans rfl)
  have r1 := pw_cell_below Y2c.out ((blk_cell NC11.out 0).trans rfl)
  have r2 := pw_cell_below Y2c.out ((blk_cell NB11.out 0).trans rfl)
  go_wp2
  go_ret
  exact ⟨rfl, below_step BV11.out Y2c.out⟩
set_option maxRecDepth 100000 in
set_option maxHeartbeats 16000000 in
theorem private_bad (s0 s x : ByteArray) (a0 a1 a2 a3 : Int) (A4 : Option Addr) (c4 : Nat) (l4 : List Int) (A5 : Option Addr) (c5 : Nat) (l5 : List Int) (A6 : Option Addr) (c6 : Nat) (l6 : List Int) (a7 : Int) (w : World) (h4 : IntsC w A4 c4 l4) (h5 : IntsC w A5 c5 l5) (hG : Given w) (L : List ByteArray) (B : TG) (pl pl2 : Int) (what what2 : ByteArray) (hpl : 2 ≤ pl)
    (hss : s.size ≤ 80) (hxs : x.size ≤ 100000) (ca cb : Int) (hcb : decide (cb < 0) = false)
    (SH : ∀ W, Calls Tryz.prog 18 #[.string s0] W fun e W' => e = .returned (.string s) ∧ Below W.heap.size W W')
    (CK : ∀ W, Calls Tryz.prog 21 #[.string s] W fun e W' => e = .returned (.agg #[.int .i64 ca, .int .i64 cb]) ∧ Below W.heap.size W W')
    (MD : ∀ W, IntsC W A4 c4 l4 → IntsC W A5 c5 l5 → Calls Tryz.prog 11 #[.agg #[.int .i64 a0, .int .i64 a1, .int .i64 a2, .int .i64 a3, .slice A4 l4.length c4, .slice A5 l5.length c5, .slice none 0 0, .int .i64 0]] W fun e W' => ∃ A1 c1 A4 c4 A5 c5 A6 c6, e = .returned (.agg (tagCells B A1 c1 A4 c4 A5 c5 A6 c6)) ∧ RowsC W' B A1 c1 A4 c4 A5 c5 A6 c6 ∧ Below W.heap.size W W')
    (TX : ∀ W A1 c1 A4 c4 A5 c5 A6 c6, RowsC W B A1 c1 A4 c4 A5 c5 A6 c6 → Calls Tryz.prog 12 #[.agg (tagCells B A1 c1 A4 c4 A5 c5 A6 c6)] W fun e W' => e = .returned (.string x) ∧ Below W.heap.size W W')
    (SP : ∀ W, Calls Tryz.prog 23 #[.string (mk (low (bl s)))] W fun e W' => ∃ A c, e = .returned (.slice A L.length c) ∧ (Kd.C Kd.string W' A L.length L ∧ L.length ≤ c) ∧ Below W.heap.size W W')
    (P1 : ∀ W, NamesIn W → Calls Tryz.prog 13 #[.string (⟨#[120, 45]⟩ ++ s)] W fun e W' => ∃ A1 c1 A4 c4 A5 c5 A6 c6 D, e = .returned (.tuple #[.agg #[.string ⟨#[]⟩, .slice A1 0 c1, .string ⟨#[]⟩, .string ⟨#[]⟩, .slice A4 0 c4, .slice A5 0 c5, .slice A6 0 c6, .string ⟨#[]⟩], .iface 93 (.pointer (some ⟨D, 0, none⟩))]) ∧ FaultAt W' (D, pl, what) (.iface 49 (.int .i64 10)) ∧ RowsC W' T0 A1 c1 A4 c4 A5 c5 A6 c6 ∧ Below W.heap.size W W') (P2 : ∀ W, NamesIn W → Calls Tryz.prog 13 #[.string (x ++ ⟨#[45, 120, 45]⟩ ++ s)] W fun e W' => ∃ A1 c1 A4 c4 A5 c5 A6 c6 D, e = .returned (.tuple #[.agg #[.string ⟨#[]⟩, .slice A1 0 c1, .string ⟨#[]⟩, .string ⟨#[]⟩, .slice A4 0 c4, .slice A5 0 c5, .slice A6 0 c6, .string ⟨#[]⟩], .iface 93 (.pointer (some ⟨D, 0, none⟩))]) ∧ FaultAt W' (D, pl2, what2) (.iface 49 (.int .i64 10)) ∧ RowsC W' T0 A1 c1 A4 c4 A5 c5 A6 c6 ∧ Below W.heap.size W W') :
    Calls Tryz.prog 6 #[.string s0, .agg #[.int .i64 a0, .int .i64 a1, .int .i64 a2, .int .i64 a3, .slice A4 l4.length c4, .slice A5 l5.length c5, .slice A6 l6.length c6, .int .i64 a7]] w fun e w' => e = .returned (.bool true) ∧ Below w.heap.size w w' := by
  have HS4 := Lib.hid h4
  have HS5 := Lib.hid h5
  have HG := Lib.hid hG
  have HSH := Lib.hid SH
  have HCK := Lib.hid CK
  have HMD := Lib.hid MD
  have HTX := Lib.hid TX
  have HSP := Lib.hid SP
  have HP1 := Lib.hid P1
  have HP2 := Lib.hid P2
  have HPL := Lib.hid hpl
  have HB1 := Lib.hid (below_alloc (Below.refl w.heap.size w) (.cells #[.int .i64 a0, .int .i64 a1, .int .i64 a2, .int .i64 a3, .slice A4 l4.length c4, .slice A5 l5.length c5, .slice A6 l6.length c6, .int .i64 a7] 24))
  have K1 := Lib.hid (new_blk w (.cells #[.int .i64 a0, .int .i64 a1, .int .i64 a2, .int .i64 a3, .slice A4 l4.length c4, .slice A5 l5.length c5, .slice A6 l6.length c6, .int .i64 a7] 24))
  have LW := Lib.hid (fun W : World => lower02_calls s (by omega) W)
  have z1 : 2 + s.size ≤ 9223372036854775807 := by omega
  have z2 : x.size + 3 ≤ 9223372036854775807 := by omega
  have z3 : x.size + 3 + s.size ≤ 9223372036854775807 := by omega
  clear h4 h5 hG SH CK MD TX SP P1 P2 hss hxs hpl
  have hfd : ∀ W : World, Sem.run Tryz.prog (Instr.field 51 (.agg #[.int .i64 ca, .int .i64 cb]) 1) W = .ok (.int .i64 cb) W := fun _ => by kernel_rfl
  go_enter Tryz.func6, Tryz.ntmps6
  go_upto_region 5 with (first | (go_at_call 10; refine (awake_calls _ (HG.out.below HB1.out)).mono ?_; rintro e w2 ⟨rfl, hb⟩; have HB2 := Lib.hid (below_step HB1.out hb); have K2 := Lib.hid (blk_on K1.out hb); clear hb HB1 K1) | (go_at_call 18; refine (HSH.out _).mono ?_; rintro e w3 ⟨rfl, hb⟩; have HB3 := Lib.hid (below_step HB2.out hb); have K3 := Lib.hid (blk_on K2.out hb); clear hb HB2 K2 HSH) | (go_at_call 21; refine (HCK.out _).mono ?_; rintro e w4 ⟨rfl, hb⟩; have HB4 := Lib.hid (below_step HB3.out hb); have K4 := Lib.hid (blk_on K3.out hb); clear hb HB3 K3 HCK) | (go_at_call 13; refine (HP1.out _ (HG.out.below HB4.out).names).mono ?_; rintro e w5 ⟨A_1, A_c1, A_4, A_c4, A_5, A_c5, A_6, A_c6, DA, rfl, hF, hR, hb⟩; have HB5 := Lib.hid (below_step HB4.out hb); have K5 := Lib.hid (blk_on K4.out hb); have FA5 := Lib.hid hF; clear hb hF hR HB4 K4 HP1))
  obtain ⟨V5, hV5⟩ : ∃ V, V = w5.alloc (.cells #[.string ⟨#[]⟩, .slice A_1 0 A_c1, .string ⟨#[]⟩, .string ⟨#[]⟩, .slice A_4 0 A_c4, .slice A_5 0 A_c5, .slice A_6 0 A_c6, .string ⟨#[]⟩] 29) := ⟨_, rfl⟩
  rw [← hV5]
  have BV5 := Lib.hid (show Below w.heap.size w V5 by rw [hV5]; exact below_alloc HB5.out _)
  have KV5 := Lib.hid (show V5.heap[w.heap.size]? = some (.cells #[.int .i64 a0, .int .i64 a1, .int .i64 a2, .int .i64 a3, .slice A4 l4.length c4, .slice A5 l5.length c5, .slice A6 l6.length c6, .int .i64 a7] 24 (0, 0)) by rw [hV5]; exact blk_alloc1 K5.out _)
  have NA5 := Lib.hid (show V5.heap[w5.heap.size]? = some (.cells #[.string ⟨#[]⟩, .slice A_1 0 A_c1, .string ⟨#[]⟩, .string ⟨#[]⟩, .slice A_4 0 A_c4, .slice A_5 0 A_c5, .slice A_6 0 A_c6, .string ⟨#[]⟩] 29 (0, 0)) by rw [hV5]; exact new_blk w5 _)
  have EA5 := Lib.hid (show FaultAt V5 (DA, pl, what) (.iface 49 (.int .i64 10)) by rw [hV5]; exact FA5.out.below (below_alloc (Below.refl _ _) _))
  clear hV5 HB5 K5 FA5
  have f7 := (blk_cell KV5.out 7).trans rfl
  have g7 := blk_frozen KV5.out 7
  go_upto_region 6 with (fail)
  clear f7 g7
  have FA_ne := Lib.hid (show DA ≠ w.heap.size from fun e => by have h2 := EA5.out.2; dsimp only at h2; rw [e, blk_cell KV5.out] at h2; cases h2)
  obtain ⟨V6, hV6⟩ : ∃ V, V = V5.setCell ⟨w.heap.size, 7, none⟩ (.int .i64 0) := ⟨_, rfl⟩
  rw [← hV6]
  have BV6 := Lib.hid (show Below w.heap.size w V6 by rw [hV6]; exact BV5.out.setCell (p := ⟨w.heap.size, 7, none⟩) (Nat.le_refl _) _)
  have KV6 := Lib.hid (show V6.heap[w.heap.size]? = some (.cells #[.int .i64 a0, .int .i64 a1, .int .i64 a2, .int .i64 a3, .slice A4 l4.length c4, .slice A5 l5.length c5, .slice A6 l6.length c6, .int .i64 0] 24 (0, 0)) by rw [hV6]; exact blk_put KV5.out 7 _ rfl)
  have NA6 := Lib.hid (show V6.heap[w5.heap.size]? = some (.cells #[.string ⟨#[]⟩, .slice A_1 0 A_c1, .string ⟨#[]⟩, .string ⟨#[]⟩, .slice A_4 0 A_c4, .slice A_5 0 A_c5, .slice A_6 0 A_c6, .string ⟨#[]⟩] 29 (0, 0)) by rw [hV6]; exact blk_far NA5.out (p := ⟨w.heap.size, 7, none⟩) (blk_ne NA5.out KV5.out (by decide)) _)
  have EA6 := Lib.hid (show FaultAt V6 (DA, pl, what) (.iface 49 (.int .i64 10)) by rw [hV6]; exact faultAt_on EA5.out (Below.heap_setCell _ ⟨w.heap.size, 7, none⟩ _ _ (FA_ne.out)))
  clear hV6 BV5 KV5 NA5 EA5
  have f6 := (blk_cell KV6.out 6).trans rfl
  have g6 := blk_frozen KV6.out 6
  go_upto_region 7 with (fail)
  clear f6 g6
  obtain ⟨V7, hV7⟩ : ∃ V, V = V6.setCell ⟨w.heap.size, 6, none⟩ (.slice none 0 0) := ⟨_, rfl⟩
  rw [← hV7]
  have BV7 := Lib.hid (show Below w.heap.size w V7 by rw [hV7]; exact BV6.out.setCell (p := ⟨w.heap.size, 6, none⟩) (Nat.le_refl _) _)
  have KV7 := Lib.hid (show V7.heap[w.heap.size]? = some (.cells #[.int .i64 a0, .int .i64 a1, .int .i64 a2, .int .i64 a3, .slice A4 l4.length c4, .slice A5 l5.length c5, .slice none 0 0, .int .i64 0] 24 (0, 0)) by rw [hV7]; exact blk_put KV6.out 6 _ rfl)
  have NA7 := Lib.hid (show V7.heap[w5.heap.size]? = some (.cells #[.string ⟨#[]⟩, .slice A_1 0 A_c1, .string ⟨#[]⟩, .string ⟨#[]⟩, .slice A_4 0 A_c4, .slice A_5 0 A_c5, .slice A_6 0 A_c6, .string ⟨#[]⟩] 29 (0, 0)) by rw [hV7]; exact blk_far NA6.out (p := ⟨w.heap.size, 6, none⟩) (blk_ne NA6.out KV6.out (by decide)) _)
  have EA7 := Lib.hid (show FaultAt V7 (DA, pl, what) (.iface 49 (.int .i64 10)) by rw [hV7]; exact faultAt_on EA6.out (Below.heap_setCell _ ⟨w.heap.size, 6, none⟩ _ _ (FA_ne.out)))
  clear hV7 BV6 KV6 NA6 EA6
  obtain ⟨q0, q1, q2, q3, q4, q5, q6, q7⟩ := cells8p KV7.out
  go_wp2_with (first | (go_at_call 11; refine (HMD.out _ (HS4.out.below BV7.out) (HS5.out.below BV7.out)).mono ?_; rintro e w8 ⟨B_1, B_c1, B_4, B_c4, B_5, B_c5, B_6, B_c6, rfl, hR, hb⟩; have BV8 := Lib.hid (below_step BV7.out hb); have NA8 := Lib.hid (blk_on NA7.out hb); have EA8 := Lib.hid (EA7.out.below hb); have RB8 := Lib.hid hR; clear q0 q1 q2 q3 q4 q5 q6 q7 hb hR BV7 NA7 EA7 KV7 HS4 HS5 HMD; obtain ⟨q0, q1, q2, q3, q4, q5, q6, q7⟩ := cells8p (new_blk w8 (.cells #[.string B.lang, .slice B_1 B.ext.length B_c1, .string B.script, .string B.region, .slice B_4 B.vars.length B_c4, .slice B_5 B.exts.length B_c5, .slice B_6 B.priv.length B_c6, .string B.grand] 29))) | (go_at_call 12; refine (HTX.out _ _ _ _ _ _ _ _ _ (RB8.out.below (below_alloc (Below.refl _ _) _))).mono ?_; rintro e w9 ⟨rfl, hb⟩; have BV9 := Lib.hid (below_step (below_alloc BV8.out _) hb); have NA9 := Lib.hid (blk_on (blk_alloc1 NA8.out _) hb); have NB9 := Lib.hid (blk_on (new_blk w8 _) hb); have EA9 := Lib.hid ((EA8.out.below (below_alloc (Below.refl _ _) _)).below hb); clear q0 q1 q2 q3 q4 q5 q6 q7 hb BV8 NA8 EA8 RB8 HTX) | (go_at_call 13; refine (HP2.out _ (HG.out.below BV9.out).names).mono ?_; rintro e w10 ⟨C_1, C_c1, C_4, C_c4, C_5, C_c5, C_6, C_c6, DC, rfl, hF, hR, hb⟩; have BV10 := Lib.hid (below_step BV9.out hb); have NA10 := Lib.hid (blk_on NA9.out hb); have NB10 := Lib.hid (blk_on NB9.out hb); have EA10 := Lib.hid (EA9.out.below hb); clear hb hR hF BV9 NA9 NB9 EA9 HP2))
  obtain ⟨V11, hV11⟩ : ∃ V, V = w10.alloc (.cells #[.string ⟨#[]⟩, .slice C_1 0 C_c1, .string ⟨#[]⟩, .string ⟨#[]⟩, .slice C_4 0 C_c4, .slice C_5 0 C_c5, .slice C_6 0 C_c6, .string ⟨#[]⟩] 29) := ⟨_, rfl⟩
  rw [← hV11]
  have BV11 := Lib.hid (show Below w.heap.size w V11 by rw [hV11]; exact below_alloc BV10.out _)
  have NA11 := Lib.hid (show V11.heap[w5.heap.size]? = some (.cells #[.string ⟨#[]⟩, .slice A_1 0 A_c1, .string ⟨#[]⟩, .string ⟨#[]⟩, .slice A_4 0 A_c4, .slice A_5 0 A_c5, .slice A_6 0 A_c6, .string ⟨#[]⟩] 29 (0, 0)) by rw [hV11]; exact blk_alloc1 NA10.out _)
  have NB11 := Lib.hid (show V11.heap[w8.heap.size]? = some (.cells #[.string B.lang, .slice B_1 B.ext.length B_c1, .string B.script, .string B.region, .slice B_4 B.vars.length B_c4, .slice B_5 B.exts.length B_c5, .slice B_6 B.priv.length B_c6, .string B.grand] 29 (0, 0)) by rw [hV11]; exact blk_alloc1 NB10.out _)
  have NC11 := Lib.hid (show V11.heap[w10.heap.size]? = some (.cells #[.string ⟨#[]⟩, .slice C_1 0 C_c1, .string ⟨#[]⟩, .string ⟨#[]⟩, .slice C_4 0 C_c4, .slice C_5 0 C_c5, .slice C_6 0 C_c6, .string ⟨#[]⟩] 29 (0, 0)) by rw [hV11]; exact new_blk w10 _)
  have EA11 := Lib.hid (show FaultAt V11 (DA, pl, what) (.iface 49 (.int .i64 10)) by rw [hV11]; exact EA10.out.below (below_alloc (Below.refl _ _) _))
  clear hV11 BV10 NA10 NB10 EA10
  have EQ := Lib.hid (fun (V : World) (h : Below V11.heap.size V11 V) => (⟨pw_cell_below h ((blk_cell NA11.out 6).trans rfl), pw_cell_below h ((blk_cell NC11.out 6).trans rfl)⟩ : V.cell? ⟨w5.heap.size, 6, none⟩ = some (.slice A_6 0 A_c6) ∧ V.cell? ⟨w10.heap.size, 6, none⟩ = some (.slice C_6 0 C_c6)))
  have Y0 := Lib.hid (Below.refl V11.heap.size V11)
  refine start_ (n := 7) (S := fun w' => w'.cell? ⟨w5.heap.size, 6, none⟩ = some (.slice A_6 0 A_c6) ∧ w'.cell? ⟨w10.heap.size, 6, none⟩ = some (.slice C_6 0 C_c6)) (ds := []) #[false, false, false, false, false, false, false] (by kernel_rfl) rfl rfl (EQ.out _ (below_drew Y0.out)) (fun hHeld => ?_); refine with_tabW pp9_tab pp9_bits (fun HT_ HW_ => ?_)
  refine pure_ (i := 0) (N := some 40) (v := ?_) (a' := ?_) #[true, false, false, false, false, false, false] rfl rfl (any_of HT_.out (by kernel_rfl)) (fun _ _ _ h => h) (Or.inl ⟨by rfl, ?_⟩) ?_ ?_
  rotate_left
  · intro w'
    go_simp
    with_reducible rfl
  rotate_left
  · simp only [Act.put, List.setIfInBounds_toArray, List.set_cons_zero, List.set_cons_succ, i64_w, i32_w]
    rfl
  refine take_ (i := 1) (N := some 41) (v := ?_) (a' := ?_) #[true, true, false, false, false, false, false] rfl rfl (take_ofW HT_.out HW_.out (by kernel_rfl)) (fun _ _ _ h => h) (Or.inl ⟨by rfl, ?_⟩) hHeld ?_ ?_
  rotate_left
  · rintro w' ⟨s0, s1⟩
    go_simp
    with_reducible rfl
  rotate_left
  · simp only [Act.put, List.setIfInBounds_toArray, List.set_cons_zero, List.set_cons_succ, i64_w, i32_w]
    rfl
  refine pure_ (i := 2) (N := some 42) (v := ?_) (a' := ?_) #[true, true, true, false, false, false, false] rfl rfl (any_of HT_.out (by kernel_rfl)) (fun _ _ _ h => h) (Or.inl ⟨by rfl, ?_⟩) ?_ ?_
  rotate_left
  · intro w'
    go_simp
    with_reducible rfl
  rotate_left
  · simp only [Act.put, List.setIfInBounds_toArray, List.set_cons_zero, List.set_cons_succ, i64_w, i32_w]
    rfl
  refine one_ (i := 3) (N := some 43) #[true, true, true, true, false, false, false] rfl rfl (one_of HT_.out (by kernel_rfl)) (by decide) (fun K hK => ?_)
  refine goes_ Tryz.func24 (by kernel_rfl) rfl #[.string s] (by rfl) rfl rfl (by simp only [List.map_toArray, List.map_cons, List.map_nil]; rfl) ?_
  refine (LW.out _).mono ?_
  rintro e u1a ⟨rfl, hb⟩
  have Y1a := Lib.hid (below_step (below_drew Y0.out) hb)
  clear hb
  refine ⟨_, rfl, ?_⟩
  refine hK.out _ _ (EQ.out _ Y1a.out) (fun hHeld => ?_)
  clear hK K
  refine norm_ (a' := ?_) ?_ ?_
  rotate_left
  · show Act.put _ (some 43) _ = _
    simp only [Act.put, List.setIfInBounds_toArray, List.set_cons_zero, List.set_cons_succ, i64_w, i32_w]
    rfl
  refine one_ (i := 4) (N := some 44) #[true, true, true, true, true, false, false] rfl rfl (one_of HT_.out (by kernel_rfl)) (by decide) (fun K hK => ?_)
  refine goes_ Tryz.func23 (by kernel_rfl) rfl #[.string (mk (low (bl s)))] (by rfl) rfl rfl (by simp only [List.map_toArray, List.map_cons, List.map_nil]; rfl) ?_
  refine (HSP.out _).mono ?_
  rintro e u1b ⟨D1, dc1, rfl, hC, hb⟩
  have Y1b := Lib.hid (below_step Y1a.out hb)
  have HD1 := Lib.hid hC
  clear hb hC
  refine ⟨_, rfl, ?_⟩
  refine hK.out _ _ (EQ.out _ Y1b.out) (fun hHeld => ?_)
  clear hK K
  refine norm_ (a' := ?_) ?_ ?_
  rotate_left
  · show Act.put _ (some 44) _ = _
    simp only [Act.put, List.setIfInBounds_toArray, List.set_cons_zero, List.set_cons_succ, i64_w, i32_w]
    rfl
  refine one_ (i := 5) (N := some 45) #[true, true, true, true, true, true, false] rfl rfl (one_of HT_.out (by kernel_rfl)) (by decide) (fun K hK => ?_)
  refine goes_ Tryz.func22 (by kernel_rfl) rfl #[.slice A_6 0 A_c6, .slice D1 L.length dc1] (by rfl) rfl rfl (by simp only [List.map_toArray, List.map_cons, List.map_nil]; rfl) ?_
  refine (same04_calls (C_none _ _ _) HD1.out).mono ?_
  rintro e u1c ⟨rfl, hb⟩
  have Y1c := Lib.hid (below_step Y1b.out hb)
  clear hb
  refine ⟨_, rfl, ?_⟩
  refine hK.out _ _ (EQ.out _ Y1c.out) (fun hHeld => ?_)
  clear hK K
  refine norm_ (a' := ?_) ?_ ?_
  rotate_left
  · show Act.put _ (some 45) _ = _
    simp only [Act.put, List.setIfInBounds_toArray, List.set_cons_zero, List.set_cons_succ, i64_w, i32_w]
    rfl
  refine pure_ (i := 6) (N := some 12) (v := ?_) (a' := ?_) #[true, true, true, true, true, true, true] rfl rfl (any_of HT_.out (by kernel_rfl)) (fun _ _ _ h => h) (Or.inl ⟨by rfl, ?_⟩) ?_ ?_
  rotate_left
  · intro w'
    go_simp
    with_reducible rfl
  rotate_left
  · simp only [Act.put, List.setIfInBounds_toArray, List.set_cons_zero, List.set_cons_succ, i64_w, i32_w]
    rfl
  refine done_ (done_of HT_.out (by kernel_rfl)) ?_
  go_wp2
  refine start_ (n := 7) (S := fun w' => w'.cell? ⟨w5.heap.size, 6, none⟩ = some (.slice A_6 0 A_c6) ∧ w'.cell? ⟨w10.heap.size, 6, none⟩ = some (.slice C_6 0 C_c6)) (ds := []) #[false, false, false, false, false, false, false] (by kernel_rfl) rfl rfl (EQ.out _ (below_drew Y1c.out)) (fun hHeld => ?_); refine with_tabW pp10_tab pp10_bits (fun HT_ HW_ => ?_)
  refine pure_ (i := 0) (N := some 46) (v := ?_) (a' := ?_) #[true, false, false, false, false, false, false] rfl rfl (any_of HT_.out (by kernel_rfl)) (fun _ _ _ h => h) (Or.inl ⟨by rfl, ?_⟩) ?_ ?_
  rotate_left
  · intro w'
    go_simp
    with_reducible rfl
  rotate_left
  · simp only [Act.put, List.setIfInBounds_toArray, List.set_cons_zero, List.set_cons_succ, i64_w, i32_w]
    rfl
  refine take_ (i := 1) (N := some 47) (v := ?_) (a' := ?_) #[true, true, false, false, false, false, false] rfl rfl (take_ofW HT_.out HW_.out (by kernel_rfl)) (fun _ _ _ h => h) (Or.inl ⟨by rfl, ?_⟩) hHeld ?_ ?_
  rotate_left
  · rintro w' ⟨s0, s1⟩
    go_simp
    with_reducible rfl
  rotate_left
  · simp only [Act.put, List.setIfInBounds_toArray, List.set_cons_zero, List.set_cons_succ, i64_w, i32_w]
    rfl
  refine pure_ (i := 2) (N := some 48) (v := ?_) (a' := ?_) #[true, true, true, false, false, false, false] rfl rfl (any_of HT_.out (by kernel_rfl)) (fun _ _ _ h => h) (Or.inl ⟨by rfl, ?_⟩) ?_ ?_
  rotate_left
  · intro w'
    go_simp
    with_reducible rfl
  rotate_left
  · simp only [Act.put, List.setIfInBounds_toArray, List.set_cons_zero, List.set_cons_succ, i64_w, i32_w]
    rfl
  refine one_ (i := 3) (N := some 49) #[true, true, true, true, false, false, false] rfl rfl (one_of HT_.out (by kernel_rfl)) (by decide) (fun K hK => ?_)
  refine goes_ Tryz.func24 (by kernel_rfl) rfl #[.string s] (by rfl) rfl rfl (by simp only [List.map_toArray, List.map_cons, List.map_nil]; rfl) ?_
  refine (LW.out _).mono ?_
  rintro e u2a ⟨rfl, hb⟩
  have Y2a := Lib.hid (below_step (below_drew Y1c.out) hb)
  clear hb
  refine ⟨_, rfl, ?_⟩
  refine hK.out _ _ (EQ.out _ Y2a.out) (fun hHeld => ?_)
  clear hK K
  refine norm_ (a' := ?_) ?_ ?_
  rotate_left
  · show Act.put _ (some 49) _ = _
    simp only [Act.put, List.setIfInBounds_toArray, List.set_cons_zero, List.set_cons_succ, i64_w, i32_w]
    rfl
  refine one_ (i := 4) (N := some 50) #[true, true, true, true, true, false, false] rfl rfl (one_of HT_.out (by kernel_rfl)) (by decide) (fun K hK => ?_)
  refine goes_ Tryz.func23 (by kernel_rfl) rfl #[.string (mk (low (bl s)))] (by rfl) rfl rfl (by simp only [List.map_toArray, List.map_cons, List.map_nil]; rfl) ?_
  refine (HSP.out _).mono ?_
  rintro e u2b ⟨D2, dc2, rfl, hC, hb⟩
  have Y2b := Lib.hid (below_step Y2a.out hb)
  have HD2 := Lib.hid hC
  clear hb hC
  refine ⟨_, rfl, ?_⟩
  refine hK.out _ _ (EQ.out _ Y2b.out) (fun hHeld => ?_)
  clear hK K
  refine norm_ (a' := ?_) ?_ ?_
  rotate_left
  · show Act.put _ (some 50) _ = _
    simp only [Act.put, List.setIfInBounds_toArray, List.set_cons_zero, List.set_cons_succ, i64_w, i32_w]
    rfl
  refine one_ (i := 5) (N := some 51) #[true, true, true, true, true, true, false] rfl rfl (one_of HT_.out (by kernel_rfl)) (by decide) (fun K hK => ?_)
  refine goes_ Tryz.func22 (by kernel_rfl) rfl #[.slice C_6 0 C_c6, .slice D2 L.length dc2] (by rfl) rfl rfl (by simp only [List.map_toArray, List.map_cons, List.map_nil]; rfl) ?_
  refine (same04_calls (C_none _ _ _) HD2.out).mono ?_
  rintro e u2c ⟨rfl, hb⟩
  have Y2c := Lib.hid (below_step Y2b.out hb)
  clear hb
  refine ⟨_, rfl, ?_⟩
  refine hK.out _ _ (EQ.out _ Y2c.out) (fun hHeld => ?_)
  clear hK K
  refine norm_ (a' := ?_) ?_ ?_
  rotate_left
  · show Act.put _ (some 51) _ = _
    simp only [Act.put, List.setIfInBounds_toArray, List.set_cons_zero, List.set_cons_succ, i64_w, i32_w]
    rfl
  refine pure_ (i := 6) (N := some 13) (v := ?_) (a' := ?_) #[true, true, true, true, true, true, true] rfl rfl (any_of HT_.out (by kernel_rfl)) (fun _ _ _ h => h) (Or.inl ⟨by rfl, ?_⟩) ?_ ?_
  rotate_left
  · intro w'
    go_simp
    with_reducible rfl
  rotate_left
  · simp only [Act.put, List.setIfInBounds_toArray, List.set_cons_zero, List.set_cons_succ, i64_w, i32_w]
    rfl
  refine done_ (done_of HT_.out (by kernel_rfl)) ?_
  have hpl0 := HPL.out
  have hpl1 : decide (2 ≤ pl) = true := decide_eq_true hpl0
  go_wp2_with (first | (go_at_call 25; refine (kind_calls (r := .bad 10 pl what) ((HG.out.below BV11.out).below Y2c.out).err ⟨DA, rfl, EA11.out.below Y2c.out⟩).mono ?_; rintro e w12 ⟨he, hb⟩; obtain rfl : e = .returned (.int .i64 10) := he; have Y3 := Lib.hid (below_step Y2c.out hb); clear hb) | (go_at_call 26; refine (place_calls (r := .bad 10 pl what) ⟨DA, rfl, EA11.out.below Y3.out⟩).mono ?_; rintro e w13 ⟨he, hb⟩; obtain rfl : e = .returned (.int .i64 pl) := he; have Y4 := Lib.hid (below_step Y3.out hb); clear hb))
  go_ret
  exact ⟨rfl, below_step BV11.out Y4.out⟩
theorem ParsePrivate_calls (s0 : ByteArray) (a0 a1 a2 a3 : Int) (A4 : Option Addr) (c4 : Nat) (l4 : List Int) (A5 : Option Addr) (c5 : Nat) (l5 : List Int) (A6 : Option Addr) (c6 : Nat) (l6 : List Int) (a7 : Int) (w : World) (h4 : IntsC w A4 c4 l4) (h5 : IntsC w A5 c5 l5) (hG : Given w) :
    Calls Tryz.prog 6 #[.string s0, .agg #[.int .i64 a0, .int .i64 a1, .int .i64 a2, .int .i64 a3, .slice A4 l4.length c4, .slice A5 l5.length c5, .slice A6 l6.length c6, .int .i64 a7]] w fun e w' => e = .returned (.bool true) ∧ Below w.heap.size w w' := by
  obtain ⟨s, hs⟩ : ∃ s, s = shortB s0 := ⟨_, rfl⟩
  have hss : s.size ≤ 80 := by rw [hs]; exact shortB_size s0
  have SH : ∀ W, Calls Tryz.prog 18 #[.string s0] W fun e W' => e = .returned (.string s) ∧ Below W.heap.size W W' := fun W => by rw [hs]; exact short_calls s0 W
  obtain ⟨ca, cb, hcb, CK⟩ := check_calls s (by omega)
  obtain ⟨B, hB, MD0⟩ := made_calls a0 a1 a2 a3 l4 l5 [] 0
  rw [odd_zero] at MD0
  have MD : ∀ W, IntsC W A4 c4 l4 → IntsC W A5 c5 l5 → Calls Tryz.prog 11 #[.agg #[.int .i64 a0, .int .i64 a1, .int .i64 a2, .int .i64 a3, .slice A4 l4.length c4, .slice A5 l5.length c5, .slice none 0 0, .int .i64 0]] W fun e W' => ∃ A1 c1 A4 c4 A5 c5 A6 c6, e = .returned (.agg (tagCells B A1 c1 A4 c4 A5 c5 A6 c6)) ∧ RowsC W' B A1 c1 A4 c4 A5 c5 A6 c6 ∧ Below W.heap.size W W' := fun W i4 i5 => MD0 A4 c4 A5 c5 none 0 W i4 i5 ⟨Kd.C_nil _ _, Nat.le_refl _⟩
  have hf : FewS B := by have := hB.fewS (oddN 0); rwa [odd_zero] at this
  have ht : TxtS B := by have := baseT_txtS hB (oddN 0); rwa [odd_zero] at this
  have hm : Small B := by have := base_small hB (oddN 0); rwa [odd_zero] at this
  have hx : (mk (textT B)).size ≤ 1300 := by rw [mk_size]; exact hm.text ht
  have TX : ∀ W A1 c1 A4 c4 A5 c5 A6 c6, RowsC W B A1 c1 A4 c4 A5 c5 A6 c6 → Calls Tryz.prog 12 #[.agg (tagCells B A1 c1 A4 c4 A5 c5 A6 c6)] W fun e W' => e = .returned (.string (mk (textT B))) ∧ Below W.heap.size W W' := fun W A1 c1 A4 c4 A5 c5 A6 c6 h => text_calls h hf ht
  have SP : ∀ W, Calls Tryz.prog 23 #[.string (mk (low (bl s)))] W fun e W' => ∃ A c, e = .returned (.slice A (privOf s).length c) ∧ (Kd.C Kd.string W' A (privOf s).length (privOf s) ∧ (privOf s).length ≤ c) ∧ Below W.heap.size W W' := fun W => split04_calls (mk (low (bl s))) (by rw [mk_size, low_length, bl_len]; omega) W
  have z1 : (⟨#[120, 45]⟩ ++ s : ByteArray).size ≤ 900000 := by rw [ByteArray.size_append]; show 2 + s.size ≤ _; omega
  have z2 : (mk (textT B) ++ ⟨#[45, 120, 45]⟩ ++ s : ByteArray).size ≤ 900000 := by rw [ByteArray.size_append, ByteArray.size_append]; show (mk (textT B)).size + 3 + s.size ≤ _; omega
  have q1 := priv_one s
  have q2 := priv_two (base_shape hB) (hB.none rfl) hB.grand (base_plain hB) s
  cases h : subsOk s with
  | true =>
    exact private_good s0 s (mk (textT B)) a0 a1 a2 a3 A4 c4 l4 A5 c5 l5 A6 c6 l6 a7 w h4 h5 hG (privOf s) B { T0 with priv := privOf s } { B with priv := privOf s } hss (by omega) ca cb (hcb.trans h) SH CK MD TX SP (fun W hN => Parse_own (q1.1 h) z1 W hN) (fun W hN => Parse_good (q2.1 h) z2 W hN) rfl rfl rfl rfl
  | false =>
    obtain ⟨a, what, e1, ha⟩ := q1.2 h
    obtain ⟨a', what', e2⟩ := q2.2 h
    exact private_bad s0 s (mk (textT B)) a0 a1 a2 a3 A4 c4 l4 A5 c5 l5 A6 c6 l6 a7 w h4 h5 hG (privOf s) B a a' what what' ha hss (by omega) ca cb (hcb.trans h) SH CK MD TX SP (fun W hN => Parse_bad e1 z1 W hN) (fun W hN => Parse_bad e2 z2 W hN)
def isoglosslaw07_ParsePrivate.f (k : Nat) (s0 : ByteArray) (a0 a1 a2 a3 : Int) (l4 l5 l6 : List Int) (a7 : Int) : Option Bool := some true
theorem isoglosslaw07_ParsePrivate.calls (k : Nat) (s0 : ByteArray) (a0 a1 a2 a3 : Int) (A4 : Option Addr) (c4 : Nat) (l4 : List Int) (A5 : Option Addr) (c5 : Nat) (l5 : List Int) (A6 : Option Addr) (c6 : Nat) (l6 : List Int) (a7 : Int) (r : Bool) (w : World) (h4 : Kd.C (Kd.int .i64) w A4 l4.length l4) (g4 : l4.length ≤ c4) (h5 : Kd.C (Kd.int .i64) w A5 l5.length l5) (g5 : l5.length ≤ c5) (h6 : Kd.C (Kd.int .i64) w A6 l6.length l6) (g6 : l6.length ≤ c6) (hG : Given w) (h : isoglosslaw07_ParsePrivate.f k s0 a0 a1 a2 a3 l4 l5 l6 a7 = some r) :
    Calls Tryz.prog 6 #[.string s0, .agg #[.int .i64 a0, .int .i64 a1, .int .i64 a2, .int .i64 a3, .slice A4 l4.length c4, .slice A5 l5.length c5, .slice A6 l6.length c6, .int .i64 a7]] w fun e w' => e = .returned (.bool r) ∧ Below w.heap.size w w' := by
  obtain rfl := Option.some.inj h
  exact ParsePrivate_calls s0 a0 a1 a2 a3 A4 c4 l4 A5 c5 l5 A6 c6 l6 a7 w ⟨h4, g4⟩ ⟨h5, g5⟩ hG
end Go.Proofs.YtejnfbfikadpdaaGreatDoor.P
