/- The law ParseRight, walked. Condition: the error's variable and the names. -/
import Derived.Test.YtejnfbfikadpdaaGreatDoorSq
import Derived.Test.YtejnfbfikadpdaaGreatDoorHandRec
import Derived.Test.YtejnfbfikadpdaaGreatDoorHandRight
import Derived.Test.YtejnfbfikadpdaaGreatDoorHandSp7
namespace Go.Proofs.YtejnfbfikadpdaaGreatDoor.P
open Go.RowKit Go.Shelf Go.Proofs.YtejnfbfikadpdaaGreatDoorW.PrintWords Go.Proofs.YtejnfbfikadpdaaGreatDoorW.PrintLast Go.Proofs.YtejnfbfikadpdaaGreatDoorW.PrintMore Go.Proofs.YtejnfbfikadpdaaGreatDoor.Iso
set_option linter.unusedVariables false
set_option linter.unusedSimpArgs false
attribute [local go_sem] Oper.semAt_some
def pr2_T : Bool × List (List Nat × List Nat) := (true, [([], []), ([0], [0]), ([1], [1]), ([2, 1, 1], [1, 2]), ([3, 3, 1], [1, 3]), ([1, 4], [1, 4]), ([5, 4], [5]), ([6], [6]), ([7, 6, 6], [6, 7]), ([8, 8, 6], [6, 8]), ([6], [6]), ([9, 10, 9, 6], [6, 9, 10]), ([11, 11, 6], [6, 11]), ([6, 12], [6, 12]), ([13, 12, 0, 1, 2, 3, 4, 5, 6, 7, 8, 9, 10, 11, 12, 13], [13])])
def pr2_B : List Nat := [0, 1, 3, 7, 15, 31, 63, 127, 255, 511, 127, 2047, 4095, 8191, 16383]
theorem pr2_tab : rtab .any (opsOf Tryz.f9 2) = pr2_T := by kernel_rfl
theorem pr2_bits : waitsOk pr2_T.2 pr2_B = true := by kernel_rfl
set_option maxRecDepth 100000 in
set_option maxHeartbeats 16000000 in
theorem pright (s0 s x : ByteArray) (a0 a1 a2 a3 : Int) (A4 : Option Addr) (c4 : Nat) (l4 : List Int) (A5 : Option Addr) (c5 : Nat) (l5 : List Int) (A6 : Option Addr) (c6 : Nat) (l6 : List Int) (a7 : Int) (q0 q1 q2 : Int) (w : World) (h4 : IntsC w A4 c4 l4) (h5 : IntsC w A5 c5 l5) (h6 : IntsC w A6 c6 l6) (hG : Given w) (T : TG) (hss : s.size ≤ 80) (hxs : x.size ≤ 1300)
    (SH : ∀ W, Calls Tryz.prog 18 #[.string s0] W fun e W' => e = .returned (.string s) ∧ Below W.heap.size W W')
    (MD : ∀ W, IntsC W A4 c4 l4 → IntsC W A5 c5 l5 → IntsC W A6 c6 l6 → Calls Tryz.prog 11 #[.agg #[.int .i64 a0, .int .i64 a1, .int .i64 a2, .int .i64 a3, .slice A4 l4.length c4, .slice A5 l5.length c5, .slice A6 l6.length c6, .int .i64 a7]] W fun e W' => ∃ A1 c1 A4 c4 A5 c5 A6 c6, e = .returned (.agg (tagCells T A1 c1 A4 c4 A5 c5 A6 c6)) ∧ RowsC W' T A1 c1 A4 c4 A5 c5 A6 c6 ∧ Below W.heap.size W W')
    (TX : ∀ W A1 c1 A4 c4 A5 c5 A6 c6, RowsC W T A1 c1 A4 c4 A5 c5 A6 c6 → Calls Tryz.prog 12 #[.agg (tagCells T A1 c1 A4 c4 A5 c5 A6 c6)] W fun e W' => e = .returned (.string x) ∧ Below W.heap.size W W') :
    Calls Tryz.prog 9 #[.string s0, .agg #[.int .i64 a0, .int .i64 a1, .int .i64 a2, .int .i64 a3, .slice A4 l4.length c4, .slice A5 l5.length c5, .slice A6 l6.length c6, .int .i64 a7], .agg #[.int .i64 q0, .int .i64 q1, .int .i64 q2]] w fun e w' => e = .returned (.bool true) ∧ Below w.heap.size w w' := by
  have HS4 := Lib.hid h4
  have HS5 := Lib.hid h5
  have HS6 := Lib.hid h6
  have HG := Lib.hid hG
  have HSH := Lib.hid SH
  have HMD := Lib.hid MD
  have HTX := Lib.hid TX
  have HR1 := Lib.hid (fun (W : World) (h : Given W) => lright_calls s (by omega) W h)
  have HSPO := Lib.hid (fun W : World => lspoilt_calls x (by omega) q0 q1 q2 W)
  have HXS := Lib.hid hxs
  have HB1 := Lib.hid (below_alloc (below_alloc (Below.refl w.heap.size w) (.cells #[.int .i64 a0, .int .i64 a1, .int .i64 a2, .int .i64 a3, .slice A4 l4.length c4, .slice A5 l5.length c5, .slice A6 l6.length c6, .int .i64 a7] 24)) (.cells #[.int .i64 q0, .int .i64 q1, .int .i64 q2] 43))
  have K1 := Lib.hid (blk_alloc1 (new_blk w (.cells #[.int .i64 a0, .int .i64 a1, .int .i64 a2, .int .i64 a3, .slice A4 l4.length c4, .slice A5 l5.length c5, .slice A6 l6.length c6, .int .i64 a7] 24)) (.cells #[.int .i64 q0, .int .i64 q1, .int .i64 q2] 43))
  have Q1 := Lib.hid (show ((w.alloc (.cells #[.int .i64 a0, .int .i64 a1, .int .i64 a2, .int .i64 a3, .slice A4 l4.length c4, .slice A5 l5.length c5, .slice A6 l6.length c6, .int .i64 a7] 24)).alloc (.cells #[.int .i64 q0, .int .i64 q1, .int .i64 q2] 43)).heap[w.heap.size + 1]? = some (.cells #[.int .i64 q0, .int .i64 q1, .int .i64 q2] 43) from by
    have := new_blk (w.alloc (.cells #[.int .i64 a0, .int .i64 a1, .int .i64 a2, .int .i64 a3, .slice A4 l4.length c4, .slice A5 l5.length c5, .slice A6 l6.length c6, .int .i64 a7] 24)) (.cells #[.int .i64 q0, .int .i64 q1, .int .i64 q2] 43)
    rwa [show (w.alloc (.cells #[.int .i64 a0, .int .i64 a1, .int .i64 a2, .int .i64 a3, .slice A4 l4.length c4, .slice A5 l5.length c5, .slice A6 l6.length c6, .int .i64 a7] 24)).heap.size = w.heap.size + 1 from by simp] at this)
  clear h4 h5 h6 hG SH MD TX hss hxs
  go_enter Tryz.func9, Tryz.ntmps9
  go_wp2_with (go_at_call 10; refine (awake_calls _ (HG.out.below HB1.out)).mono ?_; rintro e w2 ⟨rfl, hb⟩; have HB2 := Lib.hid (below_step HB1.out hb); have K2 := Lib.hid (blk_on K1.out hb); have Q2 := Lib.hid (blk_on Q1.out hb); clear hb HB1 K1 Q1)
  have EQ := Lib.hid (fun (w' : World) (h : Below w2.heap.size w2 w') => (⟨pw_cell_below h ((blk_cell K2.out 0).trans rfl), pw_cell_below h ((blk_cell K2.out 1).trans rfl), pw_cell_below h ((blk_cell K2.out 2).trans rfl), pw_cell_below h ((blk_cell K2.out 3).trans rfl), pw_cell_below h ((blk_cell K2.out 4).trans rfl), pw_cell_below h ((blk_cell K2.out 5).trans rfl), pw_cell_below h ((blk_cell K2.out 6).trans rfl), pw_cell_below h ((blk_cell K2.out 7).trans rfl), pw_cell_below h ((blk_cell Q2.out 0).trans rfl), pw_cell_below h ((blk_cell Q2.out 1).trans rfl), pw_cell_below h ((blk_cell Q2.out 2).trans rfl)⟩ : w'.cell? ⟨w.heap.size, 0, none⟩ = some (.int .i64 a0) ∧ w'.cell? ⟨w.heap.size, 1, none⟩ = some (.int .i64 a1) ∧ w'.cell? ⟨w.heap.size, 2, none⟩ = some (.int .i64 a2) ∧ w'.cell? ⟨w.heap.size, 3, none⟩ = some (.int .i64 a3) ∧ w'.cell? ⟨w.heap.size, 4, none⟩ = some (.slice A4 l4.length c4) ∧ w'.cell? ⟨w.heap.size, 5, none⟩ = some (.slice A5 l5.length c5) ∧ w'.cell? ⟨w.heap.size, 6, none⟩ = some (.slice A6 l6.length c6) ∧ w'.cell? ⟨w.heap.size, 7, none⟩ = some (.int .i64 a7) ∧ w'.cell? ⟨w.heap.size + 1, 0, none⟩ = some (.int .i64 q0) ∧ w'.cell? ⟨w.heap.size + 1, 1, none⟩ = some (.int .i64 q1) ∧ w'.cell? ⟨w.heap.size + 1, 2, none⟩ = some (.int .i64 q2)))
  have Y0 := Lib.hid (Below.refl w2.heap.size w2)
  refine start_ (n := 15) (S := fun w' => w'.cell? ⟨w.heap.size, 0, none⟩ = some (.int .i64 a0) ∧ w'.cell? ⟨w.heap.size, 1, none⟩ = some (.int .i64 a1) ∧ w'.cell? ⟨w.heap.size, 2, none⟩ = some (.int .i64 a2) ∧ w'.cell? ⟨w.heap.size, 3, none⟩ = some (.int .i64 a3) ∧ w'.cell? ⟨w.heap.size, 4, none⟩ = some (.slice A4 l4.length c4) ∧ w'.cell? ⟨w.heap.size, 5, none⟩ = some (.slice A5 l5.length c5) ∧ w'.cell? ⟨w.heap.size, 6, none⟩ = some (.slice A6 l6.length c6) ∧ w'.cell? ⟨w.heap.size, 7, none⟩ = some (.int .i64 a7) ∧ w'.cell? ⟨w.heap.size + 1, 0, none⟩ = some (.int .i64 q0) ∧ w'.cell? ⟨w.heap.size + 1, 1, none⟩ = some (.int .i64 q1) ∧ w'.cell? ⟨w.heap.size + 1, 2, none⟩ = some (.int .i64 q2)) (ds := []) #[false, false, false, false, false, false, false, false, false, false, false, false, false, false, false] (by kernel_rfl) rfl rfl (EQ.out _ (below_drew Y0.out)) (fun hHeld => ?_); refine with_tabW pr2_tab pr2_bits (fun HT_ HW_ => ?_)
  refine pu_ (i := 0) (N := some 9) HT_ (bl_ 15 1) ?_
  refine pu_ (i := 1) (N := some 10) HT_ (bl_ 15 3) ?_
  refine pu_ (i := 2) (N := some 11) HT_ (bl_ 15 7) ?_
  refine on_ (i := 3) (N := some 12) HT_ (bl_ 15 15) rfl rfl (fun K hK => ?_)
  refine gs_ Tryz.func18 #[.string s0] ?_
  refine (HSH.out _).mono ?_
  rintro e v1 ⟨rfl, hb⟩
  have Y1 := Lib.hid (below_step (below_drew Y0.out) hb)
  clear hb
  refine ⟨_, rfl, ?_⟩
  refine hK.out _ _ (EQ.out _ Y1.out) (fun hHeld => ?_)
  clear hK K
  refine nm_ (some 12) ?_
  refine on_ (i := 4) (N := some 13) HT_ (bl_ 15 31) rfl rfl (fun K hK => ?_)
  refine gs_ Tryz.func31 #[.string s] ?_
  refine (HR1.out _ ((HG.out.below HB2.out).below Y1.out)).mono ?_
  rintro e v2 ⟨rfl, hb⟩
  have Y2 := Lib.hid (below_step Y1.out hb)
  clear hb
  refine ⟨_, rfl, ?_⟩
  refine hK.out _ _ (EQ.out _ Y2.out) (fun hHeld => ?_)
  clear hK K
  refine nm_ (some 13) ?_
  refine pu_ (i := 5) (N := some 14) HT_ (bl_ 15 63) ?_
  refine pu_ (i := 6) (N := some 15) HT_ (bl_ 15 127) ?_
  refine tk_ (i := 7) (N := some 16) HT_ HW_ (bl_ 15 255) hHeld ?_ (hy := by rintro w' ⟨s0, s1, s2, s3, s4, s5, s6, s7, s8, s9, s10⟩; go_simp; with_reducible rfl)
  refine tk_ (i := 10) (N := some 19) HT_ HW_ (bl_ 15 1279) hHeld ?_ (hy := by rintro w' ⟨s0, s1, s2, s3, s4, s5, s6, s7, s8, s9, s10⟩; go_simp; with_reducible rfl)
  refine on_ (i := 8) (N := some 17) HT_ (bl_ 15 1535) rfl rfl (fun K hK => ?_)
  refine gs_ Tryz.func11 #[.agg #[.int .i64 a0, .int .i64 a1, .int .i64 a2, .int .i64 a3, .slice A4 l4.length c4, .slice A5 l5.length c5, .slice A6 l6.length c6, .int .i64 a7]] ?_
  refine (HMD.out _ ((HS4.out.below HB2.out).below Y2.out) ((HS5.out.below HB2.out).below Y2.out) ((HS6.out.below HB2.out).below Y2.out)).mono ?_
  rintro e v3 ⟨B_1, B_c1, B_4, B_c4, B_5, B_c5, B_6, B_c6, rfl, hR, hb⟩
  have Y3 := Lib.hid (below_step Y2.out hb)
  have RT3 := Lib.hid hR
  clear hR
  clear hb
  refine ⟨_, rfl, ?_⟩
  refine hK.out _ _ (EQ.out _ Y3.out) (fun hHeld => ?_)
  clear hK K
  refine nm_ (some 17) ?_
  refine on_ (i := 9) (N := some 18) HT_ (bl_ 15 2047) rfl rfl (fun K hK => ?_)
  refine gs_ Tryz.func12 #[.agg #[.string T.lang, .slice B_1 T.ext.length B_c1, .string T.script, .string T.region, .slice B_4 T.vars.length B_c4, .slice B_5 T.exts.length B_c5, .slice B_6 T.priv.length B_c6, .string T.grand]] ?_
  refine (HTX.out _ _ _ _ _ _ _ _ _ RT3.out).mono ?_
  rintro e v4 ⟨rfl, hb⟩
  have Y4 := Lib.hid (below_step Y3.out hb)
  clear hb
  refine ⟨_, rfl, ?_⟩
  refine hK.out _ _ (EQ.out _ Y4.out) (fun hHeld => ?_)
  clear hK K
  refine nm_ (some 18) ?_
  refine on_ (i := 11) (N := some 20) HT_ (bl_ 15 4095) rfl rfl (fun K hK => ?_)
  refine gs_ Tryz.func19 #[.string x, .agg #[.int .i64 q0, .int .i64 q1, .int .i64 q2]] ?_
  refine (HSPO.out _).mono ?_
  rintro e v5 ⟨t, rfl, ht, hb⟩
  have Y5 := Lib.hid (below_step Y4.out hb)
  have HT5 := Lib.hid ht
  clear ht
  clear hb
  refine ⟨_, rfl, ?_⟩
  refine hK.out _ _ (EQ.out _ Y5.out) (fun hHeld => ?_)
  clear hK K
  refine nm_ (some 20) ?_
  refine on_ (i := 12) (N := some 21) HT_ (bl_ 15 8191) rfl rfl (fun K hK => ?_)
  refine gs_ Tryz.func31 #[.string t] ?_
  refine (lright_calls t (by have := HT5.out; have := HXS.out; omega) _ ((HG.out.below HB2.out).below Y5.out)).mono ?_
  rintro e v6 ⟨rfl, hb⟩
  have Y6 := Lib.hid (below_step Y5.out hb)
  clear hb
  refine ⟨_, rfl, ?_⟩
  refine hK.out _ _ (EQ.out _ Y6.out) (fun hHeld => ?_)
  clear hK K
  refine nm_ (some 21) ?_
  refine pu_ (i := 13) (N := some 22) HT_ (bl_ 15 16383) ?_
  refine pu_ (i := 14) (N := some 6) HT_ (bl_ 15 32767) ?_
  refine done_ (done_of HT_.out (by kernel_rfl)) ?_
  go_wp2
  go_ret
  exact ⟨rfl, below_step HB2.out Y6.out⟩
theorem ParseRight_calls (s0 : ByteArray) (a0 a1 a2 a3 : Int) (A4 : Option Addr) (c4 : Nat) (l4 : List Int) (A5 : Option Addr) (c5 : Nat) (l5 : List Int) (A6 : Option Addr) (c6 : Nat) (l6 : List Int) (a7 : Int) (q0 q1 q2 : Int) (w : World) (h4 : IntsC w A4 c4 l4) (h5 : IntsC w A5 c5 l5) (h6 : IntsC w A6 c6 l6) (hG : Given w) :
    Calls Tryz.prog 9 #[.string s0, .agg #[.int .i64 a0, .int .i64 a1, .int .i64 a2, .int .i64 a3, .slice A4 l4.length c4, .slice A5 l5.length c5, .slice A6 l6.length c6, .int .i64 a7], .agg #[.int .i64 q0, .int .i64 q1, .int .i64 q2]] w fun e w' => e = .returned (.bool true) ∧ Below w.heap.size w w' := by
  obtain ⟨B, hB, MD0⟩ := made_calls a0 a1 a2 a3 l4 l5 l6 a7
  have hf : FewS (spoiltT B (oddN a7)) := hB.fewS (oddN a7)
  have ht : TxtS (spoiltT B (oddN a7)) := baseT_txtS hB (oddN a7)
  have hm : Small (spoiltT B (oddN a7)) := base_small hB (oddN a7)
  generalize spoiltT B (oddN a7) = T at MD0 hf ht hm
  have hx : (textT T).length ≤ 1300 := hm.text ht
  exact pright s0 (shortB s0) (mk (textT T)) a0 a1 a2 a3 A4 c4 l4 A5 c5 l5 A6 c6 l6 a7 q0 q1 q2 w h4 h5 h6 hG T (shortB_size s0) (by rw [mk_size]; exact hx) (fun W => short_calls s0 W) (fun W i4 i5 i6 => MD0 A4 c4 A5 c5 A6 c6 W i4 i5 i6) (fun W A1 c1 A4 c4 A5 c5 A6 c6 h => text_calls h hf ht)
def w7_ParseRight.f (k : Nat) (s0 : ByteArray) (a0 a1 a2 a3 : Int) (l4 l5 l6 : List Int) (a7 : Int) (q0 q1 q2 : Int) : Option Bool := some true
theorem w7_ParseRight.calls (k : Nat) (s0 : ByteArray) (a0 a1 a2 a3 : Int) (A4 : Option Addr) (c4 : Nat) (l4 : List Int) (A5 : Option Addr) (c5 : Nat) (l5 : List Int) (A6 : Option Addr) (c6 : Nat) (l6 : List Int) (a7 : Int) (q0 q1 q2 : Int) (r : Bool) (w : World) (h4 : Kd.C (Kd.int .i64) w A4 l4.length l4) (g4 : l4.length ≤ c4) (h5 : Kd.C (Kd.int .i64) w A5 l5.length l5) (g5 : l5.length ≤ c5) (h6 : Kd.C (Kd.int .i64) w A6 l6.length l6) (g6 : l6.length ≤ c6) (hG : Given w) (h : w7_ParseRight.f k s0 a0 a1 a2 a3 l4 l5 l6 a7 q0 q1 q2 = some r) :
    Calls Tryz.prog 9 #[.string s0, .agg #[.int .i64 a0, .int .i64 a1, .int .i64 a2, .int .i64 a3, .slice A4 l4.length c4, .slice A5 l5.length c5, .slice A6 l6.length c6, .int .i64 a7], .agg #[.int .i64 q0, .int .i64 q1, .int .i64 q2]] w fun e w' => e = .returned (.bool r) ∧ Below w.heap.size w w' := by
  obtain rfl := Option.some.inj h
  exact ParseRight_calls s0 a0 a1 a2 a3 A4 c4 l4 A5 c5 l5 A6 c6 l6 a7 q0 q1 q2 w ⟨h4, g4⟩ ⟨h5, g5⟩ ⟨h6, g6⟩ hG
end Go.Proofs.YtejnfbfikadpdaaGreatDoor.P
