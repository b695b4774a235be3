/- The law's function tells, parse.Valid, walked. -/
import Derived.Test.YtejnfbfikadpdaaGreatDoorPx1
import Derived.Test.YtejnfbfikadpdaaGreatDoorHandLaw
import Derived.Test.YtejnfbfikadpdaaGreatDoorHandRec
import Derived.Test.YtejnfbfikadpdaaGreatDoorHandDoc
import Derived.Test.YtejnfbfikadpdaaGreatDoorHandWhats
namespace Go.Proofs.YtejnfbfikadpdaaGreatDoor.P
open Go.RowKit Go.Shelf Go.Proofs.YtejnfbfikadpdaaGreatDoorW.PrintWords Go.Proofs.YtejnfbfikadpdaaGreatDoorW.PrintLast Go.Proofs.YtejnfbfikadpdaaGreatDoorW.PrintMore Go.Proofs.YtejnfbfikadpdaaGreatDoor.Iso
set_option linter.unusedVariables false
set_option linter.unusedSimpArgs false
attribute [local go_sem] Oper.semAt_some
def goodR : PRes → Bool
  | .good _ => true
  | .bad _ _ _ => false
theorem finR_kind {E : Int} {T : TG} {ps : List PieceR} {k a : Int} {x : ByteArray} (h : finR E T ps = .bad k a x) : k = 10 ∨ k = 11 := by
  unfold finR at h
  split at h
  · cases h
  · injection h with h _; exact .inl h.symm
theorem tailR_kind {E : Int} {T : TG} {ps : List PieceR} {k a : Int} {x : ByteArray} (h : tailR E T ps = .bad k a x) : k = 10 ∨ k = 11 := by
  unfold tailR at h
  split at h
  · split at h
    · injection h with h _; exact .inl h.symm
    · exact finR_kind h
  · exact finR_kind h
theorem bad_kind {s : ByteArray} {k a : Int} {x : ByteArray} (h : parseR s = .bad k a x) : k = 10 ∨ k = 11 := by
  unfold parseR at h
  split at h
  · cases h
  unfold allR at h
  split at h
  · exact tailR_kind h
  split at h
  · unfold midR at h
    dsimp only at h
    split at h
    · injection h with h _; exact .inr h.symm
    split at h
    · injection h with h _; exact .inr h.symm
    split at h
    · injection h with h _; exact .inl h.symm
    · exact tailR_kind h
  · injection h with h _; exact .inl h.symm
theorem rows_zero (W : World) : RowsC W T0 none 0 none 0 none 0 none 0 :=
  ⟨C_none _ _ _, C_none _ _ _, ⟨⟨rfl, Nat.zero_le _, fun h => absurd h (Nat.lt_irrefl _)⟩, Nat.le_refl _⟩, C_none _ _ _⟩
theorem row_one {W : World} {base D : Nat} {pl : Int} {what : ByteArray} {v : Value} (h : Kd.R Kd.string 9 W base (fun _ => True) v (whatsOf [(D, pl, what)])) : ∃ ad c, v = .slice (some ad) 1 c ∧ W.cell? ad = some (.string what) ∧ 1 ≤ c := by
  obtain ⟨A, c, hv, hc, hC⟩ := Kd.R_reads h
  obtain ⟨ad, ea, x0⟩ := Kd.at_string hC 0 (by decide) (by simp [whatsOf])
  subst ea
  exact ⟨ad, c, hv, x0, hc⟩
set_option maxRecDepth 100000 in
set_option maxHeartbeats 1000000 in
theorem Valid_calls (s : ByteArray) (hs : s.size ≤ 900000) (w : World) (hN : NamesIn w) : Calls Tryz.prog 61 #[.string s] w fun e W' => e = .returned (.bool (goodR (parseR s))) ∧ Below w.heap.size w W' := by
  cases hr : parseR s with
  | good U =>
    have PA := Lib.hid (fun W hN => Parse_good hr hs W hN)
    have HN := Lib.hid hN
    clear hN
    go_enter Tryz.func61, Tryz.ntmps61
    go_wp2_with (go_at_call 13; refine (PA.out _ HN.out).mono ?_; rintro e w2 ⟨U_1, U_c1, U_4, U_c4, U_5, U_c5, U_6, U_c6, rfl, hR, hb⟩; have HB2 := Lib.hid hb; clear hb hR)
    go_ret
    exact ⟨rfl, below_alloc HB2.out _⟩
  | bad k a x =>
    have PA := Lib.hid (fun W hN => Parse_bad hr hs W hN)
    have HN := Lib.hid hN
    clear hN
    go_enter Tryz.func61, Tryz.ntmps61
    go_wp2_with (go_at_call 13; refine (PA.out _ HN.out).mono ?_; rintro e w2 ⟨U_1, U_c1, U_4, U_c4, U_5, U_c5, U_6, U_c6, D, rfl, hF, hR, hb⟩; have HB2 := Lib.hid hb; clear hb hR hF)
    go_ret
    exact ⟨rfl, below_alloc HB2.out _⟩
def te4_T : Bool × List (List Nat × List Nat) := (true, [([], []), ([0], [0]), ([1], [1]), ([2], [2]), ([3, 2, 2], [2, 3]), ([2], [2]), ([5, 2], [2, 5]), ([4, 6, 2], [2, 4, 6]), ([2, 7], [2, 7]), ([8, 4], [8]), ([9], [9]), ([10, 9, 9], [9, 10]), ([9], [9]), ([12, 9], [9, 12]), ([13, 9], [9, 13]), ([11, 14, 9], [9, 11, 14]), ([9, 15], [9, 15])])
def te4_B : List Nat := [0, 1, 3, 7, 15, 7, 39, 127, 255, 511, 1023, 2047, 1023, 5119, 13311, 32767, 65535]
theorem te4_tab : rtab .any (opsOf Tryz.f29 4) = te4_T := by kernel_rfl
theorem te4_bits : waitsOk te4_T.2 te4_B = true := by kernel_rfl
def te9_T : Bool × List (List Nat × List Nat) := (true, [([], []), ([0], [0]), ([], []), ([2], [2]), ([1, 3], [1, 3]), ([4, 1], [4]), ([5], [5]), ([6, 5], [5, 6]), ([7, 5], [5, 7]), ([5, 8], [5, 8]), ([9, 5], [9]), ([10], [10]), ([11, 10], [10, 11]), ([12, 10], [10, 12]), ([10], [10]), ([14, 10], [10, 14]), ([13, 15, 10], [10, 13, 15]), ([10, 16], [10, 16]), ([17, 10, 0, 1, 2, 3, 4, 5, 6, 7, 8, 9, 10, 11, 12, 13, 14, 15, 16, 17], [17])])
def te9_B : List Nat := [0, 1, 0, 4, 15, 31, 63, 127, 255, 511, 1023, 2047, 4095, 8191, 2047, 18431, 65535, 131071, 262143]
theorem te9_tab : rtab .any (opsOf Tryz.f29 9) = te9_T := by kernel_rfl
theorem te9_bits : waitsOk te9_T.2 te9_B = true := by kernel_rfl
set_option maxRecDepth 100000 in
set_option maxHeartbeats 16000000 in
theorem tells_good (s : ByteArray) (w : World) (hG : Given w) (U : TG)
    (PA : ∀ W, NamesIn W → Calls Tryz.prog 13 #[.string s] W fun e W' => ∃ A1 c1 A4 c4 A5 c5 A6 c6, e = .returned (.tuple #[.agg (tagCells U A1 c1 A4 c4 A5 c5 A6 c6), .nilIface]) ∧ RowsC W' U A1 c1 A4 c4 A5 c5 A6 c6 ∧ Below W.heap.size W W')
    (DC : ∀ W, Calls Tryz.prog 60 #[.string s] W fun e W' => ∃ A1 c1 A4 c4 A5 c5 A6 c6, e = .returned (.agg #[.string U.lang, .slice A1 U.ext.length c1, .string U.script, .string U.region, .slice A4 U.vars.length c4, .slice A5 U.exts.length c5, .slice A6 U.priv.length c6, .string U.grand, .int .i64 0, .int .i64 0, .string ⟨#[]⟩]) ∧ RowsC W' U A1 c1 A4 c4 A5 c5 A6 c6 ∧ Below W.heap.size W W')
    (VA : ∀ W, NamesIn W → Calls Tryz.prog 61 #[.string s] W fun e W' => e = .returned (.bool true) ∧ Below W.heap.size W W') :
    Calls Tryz.prog 29 #[.string s] w fun e w' => e = .returned (.bool true) ∧ Below w.heap.size w w' := by
  have HG := Lib.hid hG
  have HPA := Lib.hid PA
  have HDC := Lib.hid DC
  have HVA := Lib.hid VA
  have HB0 := Lib.hid (Below.refl w.heap.size w)
  clear hG PA DC VA
  go_enter Tryz.func29, Tryz.ntmps29
  go_upto_region 4 with (first
    | (go_at_call 13; refine (HPA.out _ (HG.out.below HB0.out).names).mono ?_; rintro e w2 ⟨U_1, U_c1, U_4, U_c4, U_5, U_c5, U_6, U_c6, rfl, hR, hb⟩; have HB2 := Lib.hid (below_step HB0.out hb); have RT2 := Lib.hid hR; have TN := Lib.hid (new_blk w2 (.cells #[.string U.lang, .slice U_1 U.ext.length U_c1, .string U.script, .string U.region, .slice U_4 U.vars.length U_c4, .slice U_5 U.exts.length U_c5, .slice U_6 U.priv.length U_c6, .string U.grand] 29)); clear hb hR HB0 HPA)
    | (go_at_call 60; refine (HDC.out _).mono ?_; rintro e w3 ⟨V_1, V_c1, V_4, V_c4, V_5, V_c5, V_6, V_c6, rfl, hR, hb⟩; have HB3 := Lib.hid (below_step (below_alloc HB2.out (.cells #[.string U.lang, .slice U_1 U.ext.length U_c1, .string U.script, .string U.region, .slice U_4 U.vars.length U_c4, .slice U_5 U.exts.length U_c5, .slice U_6 U.priv.length U_c6, .string U.grand] 29)) hb); have RT3 := Lib.hid ((RT2.out.below (below_alloc (Below.refl _ _) (.cells #[.string U.lang, .slice U_1 U.ext.length U_c1, .string U.script, .string U.region, .slice U_4 U.vars.length U_c4, .slice U_5 U.exts.length U_c5, .slice U_6 U.priv.length U_c6, .string U.grand] 29))).below hb); have RV3 := Lib.hid hR; clear hR; have TN3 := Lib.hid (blk_on TN.out hb); obtain ⟨q0, q1, q2, q3, q4, q5, q6, q7⟩ := cells8o TN3.out (.cells #[.string U.lang, .slice V_1 U.ext.length V_c1, .string U.script, .string U.region, .slice V_4 U.vars.length V_c4, .slice V_5 U.exts.length V_c5, .slice V_6 U.priv.length V_c6, .string U.grand, .int .i64 0, .int .i64 0, .string ⟨#[]⟩] 97); obtain ⟨⟨k0, k1, k2, k3, k4, k5, k6, k7, k8, k9, k10⟩, -⟩ := cells11p (new_blk w3 (.cells #[.string U.lang, .slice V_1 U.ext.length V_c1, .string U.script, .string U.region, .slice V_4 U.vars.length V_c4, .slice V_5 U.exts.length V_c5, .slice V_6 U.priv.length V_c6, .string U.grand, .int .i64 0, .int .i64 0, .string ⟨#[]⟩] 97)); clear hb HB2 RT2 TN HDC)
    | (go_at_call 16; refine (same_calls (RT3.out.below (below_alloc (Below.refl _ _) _)) (RV3.out.below (below_alloc (Below.refl _ _) _))).mono ?_; rw [sameT_refl]; rintro e w4 ⟨rfl, hb⟩; have HB4 := Lib.hid (below_step (below_alloc HB3.out (.cells #[.string U.lang, .slice V_1 U.ext.length V_c1, .string U.script, .string U.region, .slice V_4 U.vars.length V_c4, .slice V_5 U.exts.length V_c5, .slice V_6 U.priv.length V_c6, .string U.grand, .int .i64 0, .int .i64 0, .string ⟨#[]⟩] 97)) hb); have GN4 := Lib.hid (blk_on (new_blk w3 (.cells #[.string U.lang, .slice V_1 U.ext.length V_c1, .string U.script, .string U.region, .slice V_4 U.vars.length V_c4, .slice V_5 U.exts.length V_c5, .slice V_6 U.priv.length V_c6, .string U.grand, .int .i64 0, .int .i64 0, .string ⟨#[]⟩] 97)) hb); clear q0 q1 q2 q3 q4 q5 q6 q7 k0 k1 k2 k3 k4 k5 k6 k7 k8 k9 k10 hb HB3 RT3 RV3 TN3))
  have EQ := Lib.hid (fun (w' : World) (h : Below w4.heap.size w4 w') => (pw_cell_below h ((blk_cell GN4.out 8).trans rfl) : w'.cell? ⟨w3.heap.size, 8, none⟩ = some (.int .i64 0)))
  have Y0 := Lib.hid (Below.refl w4.heap.size w4)
  refine start_ (n := 17) (S := fun w' => w'.cell? ⟨w3.heap.size, 8, none⟩ = some (.int .i64 0)) (ds := []) #[false, false, false, false, false, false, false, false, false, false, false, false, false, false, false, false, false] (by kernel_rfl) rfl rfl (EQ.out _ (below_drew Y0.out)) (fun hHeld => ?_); refine with_tabW te4_tab te4_bits (fun HT_ HW_ => ?_)
  refine pu_ (i := 0) (N := some 19) HT_ (bl_ 17 1) ?_
  refine pu_ (i := 1) (N := some 20) HT_ (bl_ 17 3) ?_
  refine pu_ (i := 2) (N := some 21) HT_ (bl_ 17 7) ?_
  refine pu_ (i := 3) (N := some 22) HT_ (bl_ 17 15) ?_
  refine pu_ (i := 5) (N := some 24) HT_ (bl_ 17 47) ?_
  refine tk_ (i := 6) (N := some 25) HT_ HW_ (bl_ 17 111) hHeld ?_ (hy := by rintro w' s0; go_simp; with_reducible rfl)
  refine on_ (i := 4) (N := some 23) HT_ (bl_ 17 127) rfl rfl (fun K hK => ?_)
  refine gs_ Tryz.func25 #[.nilIface] ?_
  refine (kind_calls (r := .good U) ((HG.out.below HB4.out).below (below_drew Y0.out)).err (show ErrC _ (.good U) _ from rfl)).mono ?_
  rintro e w5 ⟨rfl, hb⟩
  have Y1 := Lib.hid (below_step (below_drew Y0.out) hb)
  clear hb
  refine ⟨_, rfl, ?_⟩
  refine hK.out _ _ (EQ.out _ Y1.out) (fun hHeld => ?_)
  clear hK K
  refine nm_ (some 23) ?_
  refine pu_ (i := 7) (N := some 26) HT_ (bl_ 17 255) ?_
  refine pu_ (i := 8) (N := some 27) HT_ (bl_ 17 511) ?_
  refine pu_ (i := 9) (N := some 28) HT_ (bl_ 17 1023) ?_
  refine pu_ (i := 10) (N := some 29) HT_ (bl_ 17 2047) ?_
  refine pu_ (i := 12) (N := some 31) HT_ (bl_ 17 6143) ?_
  refine tk_ (i := 13) (N := some 32) HT_ HW_ (bl_ 17 14335) hHeld ?_ (hy := by rintro w' s0; go_simp; with_reducible rfl)
  refine pu_ (i := 14) (N := some 33) HT_ (bl_ 17 30719) ?_
  refine on_ (i := 11) (N := some 30) HT_ (bl_ 17 32767) rfl rfl (fun K hK => ?_)
  refine gs_ Tryz.func61 #[.string s] ?_
  refine (HVA.out _ ((HG.out.below HB4.out).below Y1.out).names).mono ?_
  rintro e w6 ⟨rfl, hb⟩
  have Y2 := Lib.hid (below_step Y1.out hb)
  clear hb
  refine ⟨_, rfl, ?_⟩
  refine hK.out _ _ (EQ.out _ Y2.out) (fun hHeld => ?_)
  clear hK K
  refine nm_ (some 30) ?_
  refine pu_ (i := 15) (N := some 34) HT_ (bl_ 17 65535) ?_
  refine pu_ (i := 16) (N := some 35) HT_ (bl_ 17 131071) ?_
  refine done_ (done_of HT_.out (by kernel_rfl)) ?_
  have HB6 := Lib.hid (below_step HB4.out Y2.out)
  have k8 : w6.cell? ⟨w3.heap.size, 8, none⟩ = some (.int .i64 0) := EQ.out _ Y2.out
  go_wp2
  go_ret
  exact ⟨rfl, HB6.out⟩
set_option maxRecDepth 100000 in
set_option maxHeartbeats 16000000 in
theorem tells_bad10 (s : ByteArray) (w : World) (hG : Given w) (pl : Int) (what : ByteArray)
    (PA : ∀ W, NamesIn W → Calls Tryz.prog 13 #[.string s] W fun e W' => ∃ A1 c1 A4 c4 A5 c5 A6 c6 D, e = .returned (.tuple #[.agg #[.string ⟨#[]⟩, .slice A1 0 c1, .string ⟨#[]⟩, .string ⟨#[]⟩, .slice A4 0 c4, .slice A5 0 c5, .slice A6 0 c6, .string ⟨#[]⟩], .iface 93 (.pointer (some ⟨D, 0, none⟩))]) ∧ FaultAt W' (D, pl, what) (.iface 49 (.int .i64 10)) ∧ RowsC W' T0 A1 c1 A4 c4 A5 c5 A6 c6 ∧ Below W.heap.size W W')
    (DC : ∀ W, Calls Tryz.prog 60 #[.string s] W fun e W' => e = .returned (.agg #[.string ⟨#[]⟩, .slice none 0 0, .string ⟨#[]⟩, .string ⟨#[]⟩, .slice none 0 0, .slice none 0 0, .slice none 0 0, .string ⟨#[]⟩, .int .i64 10, .int .i64 pl, .string what]) ∧ Below W.heap.size W W')
    (VA : ∀ W, NamesIn W → Calls Tryz.prog 61 #[.string s] W fun e W' => e = .returned (.bool false) ∧ Below W.heap.size W W') :
    Calls Tryz.prog 29 #[.string s] w fun e w' => e = .returned (.bool true) ∧ Below w.heap.size w w' := by
  have HG := Lib.hid hG
  have HPA := Lib.hid PA
  have HDC := Lib.hid DC
  have HVA := Lib.hid VA
  have HB0 := Lib.hid (Below.refl w.heap.size w)
  clear hG PA DC VA
  go_enter Tryz.func29, Tryz.ntmps29
  go_upto_region 4 with (first
    | (go_at_call 13; refine (HPA.out _ (HG.out.below HB0.out).names).mono ?_; rintro e w2 ⟨U_1, U_c1, U_4, U_c4, U_5, U_c5, U_6, U_c6, D, rfl, hF, hR, hb⟩; have HB2 := Lib.hid (below_step HB0.out hb); have RT2 := Lib.hid hR; have FA2 := Lib.hid hF; clear hF; have TN := Lib.hid (new_blk w2 (.cells #[.string ⟨#[]⟩, .slice U_1 0 U_c1, .string ⟨#[]⟩, .string ⟨#[]⟩, .slice U_4 0 U_c4, .slice U_5 0 U_c5, .slice U_6 0 U_c6, .string ⟨#[]⟩] 29)); clear hb hR HB0 HPA)
    | (go_at_call 60; refine (HDC.out _).mono ?_; rintro e w3 ⟨rfl, hb⟩; have HB3 := Lib.hid (below_step (below_alloc HB2.out (.cells #[.string ⟨#[]⟩, .slice U_1 0 U_c1, .string ⟨#[]⟩, .string ⟨#[]⟩, .slice U_4 0 U_c4, .slice U_5 0 U_c5, .slice U_6 0 U_c6, .string ⟨#[]⟩] 29)) hb); have RT3 := Lib.hid ((RT2.out.below (below_alloc (Below.refl _ _) (.cells #[.string ⟨#[]⟩, .slice U_1 0 U_c1, .string ⟨#[]⟩, .string ⟨#[]⟩, .slice U_4 0 U_c4, .slice U_5 0 U_c5, .slice U_6 0 U_c6, .string ⟨#[]⟩] 29))).below hb); have RV3 := Lib.hid (rows_zero w3); have TN3 := Lib.hid (blk_on TN.out hb); have FA3 := Lib.hid ((FA2.out.below (below_alloc (Below.refl _ _) (.cells #[.string ⟨#[]⟩, .slice U_1 0 U_c1, .string ⟨#[]⟩, .string ⟨#[]⟩, .slice U_4 0 U_c4, .slice U_5 0 U_c5, .slice U_6 0 U_c6, .string ⟨#[]⟩] 29))).below hb); clear FA2; obtain ⟨q0, q1, q2, q3, q4, q5, q6, q7⟩ := cells8o TN3.out (.cells #[.string ⟨#[]⟩, .slice none 0 0, .string ⟨#[]⟩, .string ⟨#[]⟩, .slice none 0 0, .slice none 0 0, .slice none 0 0, .string ⟨#[]⟩, .int .i64 10, .int .i64 pl, .string what] 97); obtain ⟨⟨k0, k1, k2, k3, k4, k5, k6, k7, k8, k9, k10⟩, -⟩ := cells11p (new_blk w3 (.cells #[.string ⟨#[]⟩, .slice none 0 0, .string ⟨#[]⟩, .string ⟨#[]⟩, .slice none 0 0, .slice none 0 0, .slice none 0 0, .string ⟨#[]⟩, .int .i64 10, .int .i64 pl, .string what] 97)); clear hb HB2 RT2 TN HDC)
    | (go_at_call 16; refine (same_calls (T := T0) (U := T0) (RT3.out.below (below_alloc (Below.refl _ _) _)) (RV3.out.below (below_alloc (Below.refl _ _) _))).mono ?_; rw [sameT_refl]; rintro e w4 ⟨rfl, hb⟩; have HB4 := Lib.hid (below_step (below_alloc HB3.out (.cells #[.string ⟨#[]⟩, .slice none 0 0, .string ⟨#[]⟩, .string ⟨#[]⟩, .slice none 0 0, .slice none 0 0, .slice none 0 0, .string ⟨#[]⟩, .int .i64 10, .int .i64 pl, .string what] 97)) hb); have GN4 := Lib.hid (blk_on (new_blk w3 (.cells #[.string ⟨#[]⟩, .slice none 0 0, .string ⟨#[]⟩, .string ⟨#[]⟩, .slice none 0 0, .slice none 0 0, .slice none 0 0, .string ⟨#[]⟩, .int .i64 10, .int .i64 pl, .string what] 97)) hb); have FA4 := Lib.hid ((FA3.out.below (below_alloc (Below.refl _ _) (.cells #[.string ⟨#[]⟩, .slice none 0 0, .string ⟨#[]⟩, .string ⟨#[]⟩, .slice none 0 0, .slice none 0 0, .slice none 0 0, .string ⟨#[]⟩, .int .i64 10, .int .i64 pl, .string what] 97))).below hb); clear FA3; clear q0 q1 q2 q3 q4 q5 q6 q7 k0 k1 k2 k3 k4 k5 k6 k7 k8 k9 k10 hb HB3 RT3 RV3 TN3))
  have EQ := Lib.hid (fun (w' : World) (h : Below w4.heap.size w4 w') => (pw_cell_below h ((blk_cell GN4.out 8).trans rfl) : w'.cell? ⟨w3.heap.size, 8, none⟩ = some (.int .i64 10)))
  have Y0 := Lib.hid (Below.refl w4.heap.size w4)
  have EB := Lib.hid (fun (w' : World) (h : Below w4.heap.size w4 w') => (⟨D, rfl, FA4.out.below h⟩ : ErrC w' (.bad 10 pl what) (.iface 93 (.pointer (some ⟨D, 0, none⟩)))))
  refine start_ (n := 17) (S := fun w' => w'.cell? ⟨w3.heap.size, 8, none⟩ = some (.int .i64 10)) (ds := []) #[false, false, false, false, false, false, false, false, false, false, false, false, false, false, false, false, false] (by kernel_rfl) rfl rfl (EQ.out _ (below_drew Y0.out)) (fun hHeld => ?_); refine with_tabW te4_tab te4_bits (fun HT_ HW_ => ?_)
  refine pu_ (i := 0) (N := some 19) HT_ (bl_ 17 1) ?_
  refine pu_ (i := 1) (N := some 20) HT_ (bl_ 17 3) ?_
  refine pu_ (i := 2) (N := some 21) HT_ (bl_ 17 7) ?_
  refine pu_ (i := 3) (N := some 22) HT_ (bl_ 17 15) ?_
  refine pu_ (i := 5) (N := some 24) HT_ (bl_ 17 47) ?_
  refine tk_ (i := 6) (N := some 25) HT_ HW_ (bl_ 17 111) hHeld ?_ (hy := by rintro w' s0; go_simp; with_reducible rfl)
  refine on_ (i := 4) (N := some 23) HT_ (bl_ 17 127) rfl rfl (fun K hK => ?_)
  refine gs_ Tryz.func25 #[.iface 93 (.pointer (some ⟨D, 0, none⟩))] ?_
  refine (kind_calls (r := .bad 10 pl what) ((HG.out.below HB4.out).below (below_drew Y0.out)).err (EB.out _ (below_drew Y0.out))).mono ?_
  rintro e w5 ⟨rfl, hb⟩
  have Y1 := Lib.hid (below_step (below_drew Y0.out) hb)
  clear hb
  refine ⟨_, rfl, ?_⟩
  refine hK.out _ _ (EQ.out _ Y1.out) (fun hHeld => ?_)
  clear hK K
  refine nm_ (some 23) ?_
  refine pu_ (i := 7) (N := some 26) HT_ (bl_ 17 255) ?_
  refine pu_ (i := 8) (N := some 27) HT_ (bl_ 17 511) ?_
  refine pu_ (i := 9) (N := some 28) HT_ (bl_ 17 1023) ?_
  refine pu_ (i := 10) (N := some 29) HT_ (bl_ 17 2047) ?_
  refine pu_ (i := 12) (N := some 31) HT_ (bl_ 17 6143) ?_
  refine tk_ (i := 13) (N := some 32) HT_ HW_ (bl_ 17 14335) hHeld ?_ (hy := by rintro w' s0; go_simp; with_reducible rfl)
  refine pu_ (i := 14) (N := some 33) HT_ (bl_ 17 30719) ?_
  refine on_ (i := 11) (N := some 30) HT_ (bl_ 17 32767) rfl rfl (fun K hK => ?_)
  refine gs_ Tryz.func61 #[.string s] ?_
  refine (HVA.out _ ((HG.out.below HB4.out).below Y1.out).names).mono ?_
  rintro e w6 ⟨rfl, hb⟩
  have Y2 := Lib.hid (below_step Y1.out hb)
  clear hb
  refine ⟨_, rfl, ?_⟩
  refine hK.out _ _ (EQ.out _ Y2.out) (fun hHeld => ?_)
  clear hK K
  refine nm_ (some 30) ?_
  refine pu_ (i := 15) (N := some 34) HT_ (bl_ 17 65535) ?_
  refine pu_ (i := 16) (N := some 35) HT_ (bl_ 17 131071) ?_
  refine done_ (done_of HT_.out (by kernel_rfl)) ?_
  have HB6 := Lib.hid (below_step HB4.out Y2.out)
  have k8 : w6.cell? ⟨w3.heap.size, 8, none⟩ = some (.int .i64 10) := EQ.out _ Y2.out
  have GN6 := Lib.hid (blk_on GN4.out Y2.out)
  have FA6 := Lib.hid (FA4.out.below Y2.out)
  clear EQ EB Y0 Y1 Y2 GN4 FA4
  go_upto_region 9 with (go_at_call 62; refine (Whats_calls (.iface 93 (.pointer (some ⟨D, 0, none⟩))) [(D, pl, what)] (some 10) _ (.fault FA6.out (.errno 10)) (by simp)).mono ?_; rintro e w7 ⟨v7, rfl, hr, hb⟩; obtain ⟨ad, c7, hv7, hC, hc7⟩ := row_one hr; subst hv7; have HB7 := Lib.hid (below_step HB6.out hb); have GN7 := Lib.hid (blk_on GN6.out hb); have FA7 := Lib.hid (FA6.out.below hb); have HC7 := Lib.hid hC; clear k8 hr hb hC hc7 HB6 GN6 FA6)
  have EQ := Lib.hid (fun (w' : World) (h : Below w7.heap.size w7 w') => (⟨pw_cell_below h ((blk_cell GN7.out 9).trans rfl), pw_cell_below h ((blk_cell GN7.out 10).trans rfl), pw_cell_below h HC7.out⟩ : w'.cell? ⟨w3.heap.size, 9, none⟩ = some (.int .i64 pl) ∧ w'.cell? ⟨w3.heap.size, 10, none⟩ = some (.string what) ∧ w'.cell? ad = some (.string what)))
  have Y0 := Lib.hid (Below.refl w7.heap.size w7)
  have HPL := Lib.hid (show ∀ W, ErrC W (.bad 10 pl what) (.iface 93 (.pointer (some ⟨D, 0, none⟩))) → Calls Tryz.prog 26 #[.iface 93 (.pointer (some ⟨D, 0, none⟩))] W fun ev W' => ev = .returned (.int .i64 pl) ∧ Below W.heap.size W W' from fun W h => place_calls (r := .bad 10 pl what) h)
  have b3 : (pl == pl) = true := beq_self_eq_true pl
  have b4 : (what.toList == what.toList) = true := beq_self_eq_true _
  refine start_ (n := 19) (S := fun w' => w'.cell? ⟨w3.heap.size, 9, none⟩ = some (.int .i64 pl) ∧ w'.cell? ⟨w3.heap.size, 10, none⟩ = some (.string what) ∧ w'.cell? ad = some (.string what)) (ds := []) #[false, false, false, false, false, false, false, false, false, false, false, false, false, false, false, false, false, false, false] (by kernel_rfl) rfl rfl (EQ.out _ (below_drew Y0.out)) (fun hHeld => ?_); refine with_tabW te9_tab te9_bits (fun HT_ HW_ => ?_)
  refine pu_ (i := 0) (N := some 43) HT_ (bl_ 19 1) ?_
  refine pu_ (i := 2) (N := some 45) HT_ (bl_ 19 5) ?_
  refine tk_ (i := 3) (N := some 46) HT_ HW_ (bl_ 19 13) hHeld ?_ (hy := by rintro w' ⟨s0, s1, s2⟩; go_simp; with_reducible rfl)
  refine on_ (i := 1) (N := some 44) HT_ (bl_ 19 15) rfl rfl (fun K hK => ?_)
  refine gs_ Tryz.func26 #[.iface 93 (.pointer (some ⟨D, 0, none⟩))] ?_
  refine (HPL.out _ (show ErrC _ (.bad 10 pl what) _ from ⟨D, rfl, FA7.out.below (below_drew Y0.out)⟩)).mono ?_
  rintro e w8 ⟨rfl, hb⟩
  have Y1 := Lib.hid (below_step (below_drew Y0.out) hb)
  clear hb
  refine ⟨_, rfl, ?_⟩
  refine hK.out _ _ (EQ.out _ Y1.out) (fun hHeld => ?_)
  clear hK K
  refine nm_ (some 44) ?_
  refine pu_ (i := 4) (N := some 47) HT_ (bl_ 19 31) ?_
  refine pu_ (i := 5) (N := some 48) HT_ (bl_ 19 63) ?_
  refine pu_ (i := 6) (N := some 49) HT_ (bl_ 19 127) ?_
  refine pu_ (i := 7) (N := some 50) HT_ (bl_ 19 255) ?_
  refine pu_ (i := 8) (N := some 51) HT_ (bl_ 19 511) ?_
  refine pu_ (i := 9) (N := some 52) HT_ (bl_ 19 1023) ?_
  refine pu_ (i := 10) (N := some 53) HT_ (bl_ 19 2047) ?_
  refine pu_ (i := 11) (N := some 54) HT_ (bl_ 19 4095) ?_
  refine pu_ (i := 12) (N := some 55) HT_ (bl_ 19 8191) ?_
  refine tk_ (i := 13) (N := some 56) HT_ HW_ (bl_ 19 16383) hHeld ?_ (hy := by rintro w' ⟨s0, s1, s2⟩; go_simp; with_reducible rfl)
  refine pu_ (i := 14) (N := some 57) HT_ (bl_ 19 32767) ?_
  refine tk_ (i := 15) (N := some 58) HT_ HW_ (bl_ 19 65535) hHeld ?_ (hy := by rintro w' ⟨s0, s1, s2⟩; go_simp; with_reducible rfl)
  refine pu_ (i := 16) (N := some 59) HT_ (bl_ 19 131071) ?_
  refine pu_ (i := 17) (N := some 60) HT_ (bl_ 19 262143) ?_
  refine pu_ (i := 18) (N := some 2) HT_ (bl_ 19 524287) ?_
  refine done_ (done_of HT_.out (by kernel_rfl)) ?_
  go_wp2
  go_ret
  exact ⟨rfl, below_step HB7.out Y1.out⟩
set_option maxRecDepth 100000 in
set_option maxHeartbeats 16000000 in
theorem tells_bad11 (s : ByteArray) (w : World) (hG : Given w) (pl : Int) (what : ByteArray)
    (PA : ∀ W, NamesIn W → Calls Tryz.prog 13 #[.string s] W fun e W' => ∃ A1 c1 A4 c4 A5 c5 A6 c6 D, e = .returned (.tuple #[.agg #[.string ⟨#[]⟩, .slice A1 0 c1, .string ⟨#[]⟩, .string ⟨#[]⟩, .slice A4 0 c4, .slice A5 0 c5, .slice A6 0 c6, .string ⟨#[]⟩], .iface 93 (.pointer (some ⟨D, 0, none⟩))]) ∧ FaultAt W' (D, pl, what) (.iface 49 (.int .i64 11)) ∧ RowsC W' T0 A1 c1 A4 c4 A5 c5 A6 c6 ∧ Below W.heap.size W W')
    (DC : ∀ W, Calls Tryz.prog 60 #[.string s] W fun e W' => e = .returned (.agg #[.string ⟨#[]⟩, .slice none 0 0, .string ⟨#[]⟩, .string ⟨#[]⟩, .slice none 0 0, .slice none 0 0, .slice none 0 0, .string ⟨#[]⟩, .int .i64 11, .int .i64 pl, .string what]) ∧ Below W.heap.size W W')
    (VA : ∀ W, NamesIn W → Calls Tryz.prog 61 #[.string s] W fun e W' => e = .returned (.bool false) ∧ Below W.heap.size W W') :
    Calls Tryz.prog 29 #[.string s] w fun e w' => e = .returned (.bool true) ∧ Below w.heap.size w w' := by
  have HG := Lib.hid hG
  have HPA := Lib.hid PA
  have HDC := Lib.hid DC
  have HVA := Lib.hid VA
  have HB0 := Lib.hid (Below.refl w.heap.size w)
  clear hG PA DC VA
  go_enter Tryz.func29, Tryz.ntmps29
  go_upto_region 4 with (first
    | (go_at_call 13; refine (HPA.out _ (HG.out.below HB0.out).names).mono ?_; rintro e w2 ⟨U_1, U_c1, U_4, U_c4, U_5, U_c5, U_6, U_c6, D, rfl, hF, hR, hb⟩; have HB2 := Lib.hid (below_step HB0.out hb); have RT2 := Lib.hid hR; have FA2 := Lib.hid hF; clear hF; have TN := Lib.hid (new_blk w2 (.cells #[.string ⟨#[]⟩, .slice U_1 0 U_c1, .string ⟨#[]⟩, .string ⟨#[]⟩, .slice U_4 0 U_c4, .slice U_5 0 U_c5, .slice U_6 0 U_c6, .string ⟨#[]⟩] 29)); clear hb hR HB0 HPA)
    | (go_at_call 60; refine (HDC.out _).mono ?_; rintro e w3 ⟨rfl, hb⟩; have HB3 := Lib.hid (below_step (below_alloc HB2.out (.cells #[.string ⟨#[]⟩, .slice U_1 0 U_c1, .string ⟨#[]⟩, .string ⟨#[]⟩, .slice U_4 0 U_c4, .slice U_5 0 U_c5, .slice U_6 0 U_c6, .string ⟨#[]⟩] 29)) hb); have RT3 := Lib.hid ((RT2.out.below (below_alloc (Below.refl _ _) (.cells #[.string ⟨#[]⟩, .slice U_1 0 U_c1, .string ⟨#[]⟩, .string ⟨#[]⟩, .slice U_4 0 U_c4, .slice U_5 0 U_c5, .slice U_6 0 U_c6, .string ⟨#[]⟩] 29))).below hb); have RV3 := Lib.hid (rows_zero w3); have TN3 := Lib.hid (blk_on TN.out hb); have FA3 := Lib.hid ((FA2.out.below (below_alloc (Below.refl _ _) (.cells #[.string ⟨#[]⟩, .slice U_1 0 U_c1, .string ⟨#[]⟩, .string ⟨#[]⟩, .slice U_4 0 U_c4, .slice U_5 0 U_c5, .slice U_6 0 U_c6, .string ⟨#[]⟩] 29))).below hb); clear FA2; obtain ⟨q0, q1, q2, q3, q4, q5, q6, q7⟩ := cells8o TN3.out (.cells #[.string ⟨#[]⟩, .slice none 0 0, .string ⟨#[]⟩, .string ⟨#[]⟩, .slice none 0 0, .slice none 0 0, .slice none 0 0, .string ⟨#[]⟩, .int .i64 11, .int .i64 pl, .string what] 97); obtain ⟨⟨k0, k1, k2, k3, k4, k5, k6, k7, k8, k9, k10⟩, -⟩ := cells11p (new_blk w3 (.cells #[.string ⟨#[]⟩, .slice none 0 0, .string ⟨#[]⟩, .string ⟨#[]⟩, .slice none 0 0, .slice none 0 0, .slice none 0 0, .string ⟨#[]⟩, .int .i64 11, .int .i64 pl, .string what] 97)); clear hb HB2 RT2 TN HDC)
    | (go_at_call 16; refine (same_calls (T := T0) (U := T0) (RT3.out.below (below_alloc (Below.refl _ _) _)) (RV3.out.below (below_alloc (Below.refl _ _) _))).mono ?_; rw [sameT_refl]; rintro e w4 ⟨rfl, hb⟩; have HB4 := Lib.hid (below_step (below_alloc HB3.out (.cells #[.string ⟨#[]⟩, .slice none 0 0, .string ⟨#[]⟩, .string ⟨#[]⟩, .slice none 0 0, .slice none 0 0, .slice none 0 0, .string ⟨#[]⟩, .int .i64 11, .int .i64 pl, .string what] 97)) hb); have GN4 := Lib.hid (blk_on (new_blk w3 (.cells #[.string ⟨#[]⟩, .slice none 0 0, .string ⟨#[]⟩, .string ⟨#[]⟩, .slice none 0 0, .slice none 0 0, .slice none 0 0, .string ⟨#[]⟩, .int .i64 11, .int .i64 pl, .string what] 97)) hb); have FA4 := Lib.hid ((FA3.out.below (below_alloc (Below.refl _ _) (.cells #[.string ⟨#[]⟩, .slice none 0 0, .string ⟨#[]⟩, .string ⟨#[]⟩, .slice none 0 0, .slice none 0 0, .slice none 0 0, .string ⟨#[]⟩, .int .i64 11, .int .i64 pl, .string what] 97))).below hb); clear FA3; clear q0 q1 q2 q3 q4 q5 q6 q7 k0 k1 k2 k3 k4 k5 k6 k7 k8 k9 k10 hb HB3 RT3 RV3 TN3))
  have EQ := Lib.hid (fun (w' : World) (h : Below w4.heap.size w4 w') => (pw_cell_below h ((blk_cell GN4.out 8).trans rfl) : w'.cell? ⟨w3.heap.size, 8, none⟩ = some (.int .i64 11)))
  have Y0 := Lib.hid (Below.refl w4.heap.size w4)
  have EB := Lib.hid (fun (w' : World) (h : Below w4.heap.size w4 w') => (⟨D, rfl, FA4.out.below h⟩ : ErrC w' (.bad 11 pl what) (.iface 93 (.pointer (some ⟨D, 0, none⟩)))))
  refine start_ (n := 17) (S := fun w' => w'.cell? ⟨w3.heap.size, 8, none⟩ = some (.int .i64 11)) (ds := []) #[false, false, false, false, false, false, false, false, false, false, false, false, false, false, false, false, false] (by kernel_rfl) rfl rfl (EQ.out _ (below_drew Y0.out)) (fun hHeld => ?_); refine with_tabW te4_tab te4_bits (fun HT_ HW_ => ?_)
  refine pu_ (i := 0) (N := some 19) HT_ (bl_ 17 1) ?_
  refine pu_ (i := 1) (N := some 20) HT_ (bl_ 17 3) ?_
  refine pu_ (i := 2) (N := some 21) HT_ (bl_ 17 7) ?_
  refine pu_ (i := 3) (N := some 22) HT_ (bl_ 17 15) ?_
  refine pu_ (i := 5) (N := some 24) HT_ (bl_ 17 47) ?_
  refine tk_ (i := 6) (N := some 25) HT_ HW_ (bl_ 17 111) hHeld ?_ (hy := by rintro w' s0; go_simp; with_reducible rfl)
  refine on_ (i := 4) (N := some 23) HT_ (bl_ 17 127) rfl rfl (fun K hK => ?_)
  refine gs_ Tryz.func25 #[.iface 93 (.pointer (some ⟨D, 0, none⟩))] ?_
  refine (kind_calls (r := .bad 11 pl what) ((HG.out.below HB4.out).below (below_drew Y0.out)).err (EB.out _ (below_drew Y0.out))).mono ?_
  rintro e w5 ⟨rfl, hb⟩
  have Y1 := Lib.hid (below_step (below_drew Y0.out) hb)
  clear hb
  refine ⟨_, rfl, ?_⟩
  refine hK.out _ _ (EQ.out _ Y1.out) (fun hHeld => ?_)
  clear hK K
  refine nm_ (some 23) ?_
  refine pu_ (i := 7) (N := some 26) HT_ (bl_ 17 255) ?_
  refine pu_ (i := 8) (N := some 27) HT_ (bl_ 17 511) ?_
  refine pu_ (i := 9) (N := some 28) HT_ (bl_ 17 1023) ?_
  refine pu_ (i := 10) (N := some 29) HT_ (bl_ 17 2047) ?_
  refine pu_ (i := 12) (N := some 31) HT_ (bl_ 17 6143) ?_
  refine tk_ (i := 13) (N := some 32) HT_ HW_ (bl_ 17 14335) hHeld ?_ (hy := by rintro w' s0; go_simp; with_reducible rfl)
  refine pu_ (i := 14) (N := some 33) HT_ (bl_ 17 30719) ?_
  refine on_ (i := 11) (N := some 30) HT_ (bl_ 17 32767) rfl rfl (fun K hK => ?_)
  refine gs_ Tryz.func61 #[.string s] ?_
  refine (HVA.out _ ((HG.out.below HB4.out).below Y1.out).names).mono ?_
  rintro e w6 ⟨rfl, hb⟩
  have Y2 := Lib.hid (below_step Y1.out hb)
  clear hb
  refine ⟨_, rfl, ?_⟩
  refine hK.out _ _ (EQ.out _ Y2.out) (fun hHeld => ?_)
  clear hK K
  refine nm_ (some 30) ?_
  refine pu_ (i := 15) (N := some 34) HT_ (bl_ 17 65535) ?_
  refine pu_ (i := 16) (N := some 35) HT_ (bl_ 17 131071) ?_
  refine done_ (done_of HT_.out (by kernel_rfl)) ?_
  have HB6 := Lib.hid (below_step HB4.out Y2.out)
  have k8 : w6.cell? ⟨w3.heap.size, 8, none⟩ = some (.int .i64 11) := EQ.out _ Y2.out
  have GN6 := Lib.hid (blk_on GN4.out Y2.out)
  have FA6 := Lib.hid (FA4.out.below Y2.out)
  clear EQ EB Y0 Y1 Y2 GN4 FA4
  go_upto_region 9 with (go_at_call 62; refine (Whats_calls (.iface 93 (.pointer (some ⟨D, 0, none⟩))) [(D, pl, what)] (some 11) _ (.fault FA6.out (.errno 11)) (by simp)).mono ?_; rintro e w7 ⟨v7, rfl, hr, hb⟩; obtain ⟨ad, c7, hv7, hC, hc7⟩ := row_one hr; subst hv7; have HB7 := Lib.hid (below_step HB6.out hb); have GN7 := Lib.hid (blk_on GN6.out hb); have FA7 := Lib.hid (FA6.out.below hb); have HC7 := Lib.hid hC; clear k8 hr hb hC hc7 HB6 GN6 FA6)
  have EQ := Lib.hid (fun (w' : World) (h : Below w7.heap.size w7 w') => (⟨pw_cell_below h ((blk_cell GN7.out 9).trans rfl), pw_cell_below h ((blk_cell GN7.out 10).trans rfl), pw_cell_below h HC7.out⟩ : w'.cell? ⟨w3.heap.size, 9, none⟩ = some (.int .i64 pl) ∧ w'.cell? ⟨w3.heap.size, 10, none⟩ = some (.string what) ∧ w'.cell? ad = some (.string what)))
  have Y0 := Lib.hid (Below.refl w7.heap.size w7)
  have HPL := Lib.hid (show ∀ W, ErrC W (.bad 11 pl what) (.iface 93 (.pointer (some ⟨D, 0, none⟩))) → Calls Tryz.prog 26 #[.iface 93 (.pointer (some ⟨D, 0, none⟩))] W fun ev W' => ev = .returned (.int .i64 pl) ∧ Below W.heap.size W W' from fun W h => place_calls (r := .bad 11 pl what) h)
  have b3 : (pl == pl) = true := beq_self_eq_true pl
  have b4 : (what.toList == what.toList) = true := beq_self_eq_true _
  refine start_ (n := 19) (S := fun w' => w'.cell? ⟨w3.heap.size, 9, none⟩ = some (.int .i64 pl) ∧ w'.cell? ⟨w3.heap.size, 10, none⟩ = some (.string what) ∧ w'.cell? ad = some (.string what)) (ds := []) #[false, false, false, false, false, false, false, false, false, false, false, false, false, false, false, false, false, false, false] (by kernel_rfl) rfl rfl (EQ.out _ (below_drew Y0.out)) (fun hHeld => ?_); refine with_tabW te9_tab te9_bits (fun HT_ HW_ => ?_)
  refine pu_ (i := 0) (N := some 43) HT_ (bl_ 19 1) ?_
  refine pu_ (i := 2) (N := some 45) HT_ (bl_ 19 5) ?_
  refine tk_ (i := 3) (N := some 46) HT_ HW_ (bl_ 19 13) hHeld ?_ (hy := by rintro w' ⟨s0, s1, s2⟩; go_simp; with_reducible rfl)
  refine on_ (i := 1) (N := some 44) HT_ (bl_ 19 15) rfl rfl (fun K hK => ?_)
  refine gs_ Tryz.func26 #[.iface 93 (.pointer (some ⟨D, 0, none⟩))] ?_
  refine (HPL.out _ (show ErrC _ (.bad 11 pl what) _ from ⟨D, rfl, FA7.out.below (below_drew Y0.out)⟩)).mono ?_
  rintro e w8 ⟨rfl, hb⟩
  have Y1 := Lib.hid (below_step (below_drew Y0.out) hb)
  clear hb
  refine ⟨_, rfl, ?_⟩
  refine hK.out _ _ (EQ.out _ Y1.out) (fun hHeld => ?_)
  clear hK K
  refine nm_ (some 44) ?_
  refine pu_ (i := 4) (N := some 47) HT_ (bl_ 19 31) ?_
  refine pu_ (i := 5) (N := some 48) HT_ (bl_ 19 63) ?_
  refine pu_ (i := 6) (N := some 49) HT_ (bl_ 19 127) ?_
  refine pu_ (i := 7) (N := some 50) HT_ (bl_ 19 255) ?_
  refine pu_ (i := 8) (N := some 51) HT_ (bl_ 19 511) ?_
  refine pu_ (i := 9) (N := some 52) HT_ (bl_ 19 1023) ?_
  refine pu_ (i := 10) (N := some 53) HT_ (bl_ 19 2047) ?_
  refine pu_ (i := 11) (N := some 54) HT_ (bl_ 19 4095) ?_
  refine pu_ (i := 12) (N := some 55) HT_ (bl_ 19 8191) ?_
  refine tk_ (i := 13) (N := some 56) HT_ HW_ (bl_ 19 16383) hHeld ?_ (hy := by rintro w' ⟨s0, s1, s2⟩; go_simp; with_reducible rfl)
  refine pu_ (i := 14) (N := some 57) HT_ (bl_ 19 32767) ?_
  refine tk_ (i := 15) (N := some 58) HT_ HW_ (bl_ 19 65535) hHeld ?_ (hy := by rintro w' ⟨s0, s1, s2⟩; go_simp; with_reducible rfl)
  refine pu_ (i := 16) (N := some 59) HT_ (bl_ 19 131071) ?_
  refine pu_ (i := 17) (N := some 60) HT_ (bl_ 19 262143) ?_
  refine pu_ (i := 18) (N := some 2) HT_ (bl_ 19 524287) ?_
  refine done_ (done_of HT_.out (by kernel_rfl)) ?_
  go_wp2
  go_ret
  exact ⟨rfl, below_step HB7.out Y1.out⟩
theorem tells_calls (s : ByteArray) (hs : s.size ≤ 100000) (w : World) (hG : Given w) : Calls Tryz.prog 29 #[.string s] w fun e w' => e = .returned (.bool true) ∧ Below w.heap.size w w' := by
  have hs2 : s.size ≤ 900000 := by omega
  have DC := fun W => doc_calls s hs2 W
  have VA := fun W hN => Valid_calls s hs2 W hN
  cases hr : parseR s with
  | good U =>
    rw [hr] at DC VA
    exact tells_good s w hG U (fun W hN => Parse_good hr hs2 W hN) (fun W => (DC W).mono fun e W' ⟨hb, A1, c1, A4, c4, A5, c5, A6, c6, he, hR⟩ => ⟨A1, c1, A4, c4, A5, c5, A6, c6, he, hR, hb⟩) VA
  | bad k a x =>
    rw [hr] at DC VA
    rcases bad_kind hr with rfl | rfl
    · exact tells_bad10 s w hG a x (fun W hN => Parse_bad hr hs2 W hN) (fun W => (DC W).mono fun e W' ⟨hb, he⟩ => ⟨he, hb⟩) VA
    · exact tells_bad11 s w hG a x (fun W hN => Parse_bad hr hs2 W hN) (fun W => (DC W).mono fun e W' ⟨hb, he⟩ => ⟨he, hb⟩) VA
end Go.Proofs.YtejnfbfikadpdaaGreatDoor.P
