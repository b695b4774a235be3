/- The law ParseTells, walked. Condition: the error's variable and the names. -/
import Derived.Test.YtejnfbfikadpdaaGreatDoorHandLaw
import Derived.Test.YtejnfbfikadpdaaGreatDoorHandRec
import Derived.Test.YtejnfbfikadpdaaGreatDoorHandTells
import Derived.Test.YtejnfbfikadpdaaGreatDoorHandSp7
import Derived.Test.YtejnfbfikadpdaaGreatDoorPx11
namespace Go.Proofs.YtejnfbfikadpdaaGreatDoor.P
open Go.RowKit Go.Shelf Go.Proofs.YtejnfbfikadpdaaGreatDoorW.PrintWords Go.Proofs.YtejnfbfikadpdaaGreatDoorW.PrintLast Go.Proofs.YtejnfbfikadpdaaGreatDoorW.PrintMore Go.Proofs.YtejnfbfikadpdaaGreatDoor.Iso
set_option linter.unusedVariables false
set_option linter.unusedSimpArgs false
attribute [local go_sem] Oper.semAt_some
theorem list05 : ∃ L : List ByteArray, r5_List.f = some L ∧ L.length = 26 ∧ ∀ x ∈ L, ∃ g, r5_Name.f x = some g ∧ g.size ≤ 20 := by
  obtain ⟨L, hL⟩ : ∃ L, r5_List.f = some L := ⟨_, rfl⟩
  have h1 : (r5_List.f).map List.length = some 26 := by decide +kernel
  have h2 : (r5_List.f).map (fun L => L.all fun x => (r5_Name.f x).any fun g => decide (g.size ≤ 20)) = some true := by decide +kernel
  rw [hL] at h1 h2
  refine ⟨L, hL, Option.some.inj h1, fun x hx => ?_⟩
  have h3 := List.all_eq_true.1 (Option.some.inj h2) x hx
  cases e : r5_Name.f x with
  | none => rw [e] at h3; cases h3
  | some g => rw [e] at h3; exact ⟨g, rfl, of_decide_eq_true h3⟩
set_option maxRecDepth 100000 in
set_option maxHeartbeats 16000000 in
theorem ptells (s0 s x : ByteArray) (a0 a1 a2 a3 : Int) (A4 : Option Addr) (c4 : Nat) (l4 : List Int) (A5 : Option Addr) (c5 : Nat) (l5 : List Int) (A6 : Option Addr) (c6 : Nat) (l6 : List Int) (a7 : Int) (q0 q1 q2 : Int) (w : World) (h4 : IntsC w A4 c4 l4) (h5 : IntsC w A5 c5 l5) (h6 : IntsC w A6 c6 l6) (hG : Given w) (T : TG) (hss : s.size ≤ 80) (hxs : x.size ≤ 1300)
    (L : List ByteArray) (hL : r5_List.f = some L) (hl : L.length = 26) (hn : ∀ x ∈ L, ∃ g, r5_Name.f x = some g ∧ g.size ≤ 20)
    (SH : ∀ W, Calls Tryz.prog 18 #[.string s0] W fun e W' => e = .returned (.string s) ∧ Below W.heap.size W W')
    (MD : ∀ W, IntsC W A4 c4 l4 → IntsC W A5 c5 l5 → IntsC W A6 c6 l6 → Calls Tryz.prog 11 #[.agg #[.int .i64 a0, .int .i64 a1, .int .i64 a2, .int .i64 a3, .slice A4 l4.length c4, .slice A5 l5.length c5, .slice A6 l6.length c6, .int .i64 a7]] W fun e W' => ∃ A1 c1 A4 c4 A5 c5 A6 c6, e = .returned (.agg (tagCells T A1 c1 A4 c4 A5 c5 A6 c6)) ∧ RowsC W' T A1 c1 A4 c4 A5 c5 A6 c6 ∧ Below W.heap.size W W')
    (TX : ∀ W A1 c1 A4 c4 A5 c5 A6 c6, RowsC W T A1 c1 A4 c4 A5 c5 A6 c6 → Calls Tryz.prog 12 #[.agg (tagCells T A1 c1 A4 c4 A5 c5 A6 c6)] W fun e W' => e = .returned (.string x) ∧ Below W.heap.size W W') :
    Calls Tryz.prog 7 #[.string s0, .agg #[.int .i64 a0, .int .i64 a1, .int .i64 a2, .int .i64 a3, .slice A4 l4.length c4, .slice A5 l5.length c5, .slice A6 l6.length c6, .int .i64 a7], .agg #[.int .i64 q0, .int .i64 q1, .int .i64 q2]] w fun e w' => e = .returned (.bool true) ∧ Below w.heap.size w w' := by
  obtain ⟨z, z0, z1, RC0⟩ := rest_calls q1 (L.length : Int) (by omega) (by omega)
  obtain ⟨nm_, hnm⟩ : ∃ a, a = rdOf ByteArray.empty L z := ⟨_, rfl⟩
  have hmem : nm_ ∈ L := by
    have hlt : z.toNat < L.length := by omega
    rw [hnm]
    unfold rdOf
    rw [List.getD_eq_getElem?_getD, List.getElem?_eq_getElem hlt]
    exact List.getElem_mem hlt
  obtain ⟨g, hg, hgs⟩ := hn nm_ hmem
  have hcall := fun W : World => r5_Name.calls nm_ g W hg
  have HNA := Lib.hid (fun W : World => (hcall W).mono fun e W' h => (⟨h.1, h.2.below⟩ : e = .returned (.string g) ∧ Below W.heap.size W W'))
  have HLI := Lib.hid (fun W : World => r5_List.calls L W hL)
  have RC := Lib.hid RC0
  have HRD := Lib.hid hnm.symm
  obtain ⟨gu, hgu⟩ : ∃ u, u = mk (up (bl g)) := ⟨_, rfl⟩
  have HGU := Lib.hid (show gu.size ≤ 20 from by rw [hgu, mk_size, up_length, bl_len]; exact hgs)
  have HUP := Lib.hid (fun W : World => show Calls Tryz.prog 14 #[.string g] W fun e W' => e = .returned (.string gu) ∧ Below W.heap.size W W' from by rw [hgu]; exact upper02_calls g (by omega) W)
  have HGS := Lib.hid hgs
  have HS4 := Lib.hid h4
  have HS5 := Lib.hid h5
  have HS6 := Lib.hid h6
  have HG := Lib.hid hG
  have HSH := Lib.hid SH
  have HMD := Lib.hid MD
  have HTX := Lib.hid TX
  have HSPX := Lib.hid (fun W : World => lspoilt_calls x (by omega) q0 q1 q2 W)
  have HSPG := Lib.hid (fun W : World => lspoilt_calls g (by omega) q0 q1 q2 W)
  have hcat : (x ++ (⟨#[45]⟩ : ByteArray) ++ s).size ≤ 100000 := by
    rw [ByteArray.size_append, ByteArray.size_append]
    have : (⟨#[45]⟩ : ByteArray).size = 1 := rfl
    omega
  have HTLL := Lib.hid (fun (W : World) (h : Given W) => tells_calls (x ++ (⟨#[45]⟩ : ByteArray) ++ s) hcat W h)
  clear hcat
  have HXS := Lib.hid hxs
  have HSS := Lib.hid hss
  have e1 : x.size + 1 ≤ 9223372036854775807 := by omega
  have e2 : x.size + 1 + s.size ≤ 9223372036854775807 := by omega
  have HB1 := Lib.hid (below_alloc (below_alloc (Below.refl w.heap.size w) (.cells #[.int .i64 a0, .int .i64 a1, .int .i64 a2, .int .i64 a3, .slice A4 l4.length c4, .slice A5 l5.length c5, .slice A6 l6.length c6, .int .i64 a7] 24)) (.cells #[.int .i64 q0, .int .i64 q1, .int .i64 q2] 43))
  have K1 := Lib.hid (blk_alloc1 (new_blk w (.cells #[.int .i64 a0, .int .i64 a1, .int .i64 a2, .int .i64 a3, .slice A4 l4.length c4, .slice A5 l5.length c5, .slice A6 l6.length c6, .int .i64 a7] 24)) (.cells #[.int .i64 q0, .int .i64 q1, .int .i64 q2] 43))
  have Q1 := Lib.hid (show ((w.alloc (.cells #[.int .i64 a0, .int .i64 a1, .int .i64 a2, .int .i64 a3, .slice A4 l4.length c4, .slice A5 l5.length c5, .slice A6 l6.length c6, .int .i64 a7] 24)).alloc (.cells #[.int .i64 q0, .int .i64 q1, .int .i64 q2] 43)).heap[w.heap.size + 1]? = some (.cells #[.int .i64 q0, .int .i64 q1, .int .i64 q2] 43) from by
    have := new_blk (w.alloc (.cells #[.int .i64 a0, .int .i64 a1, .int .i64 a2, .int .i64 a3, .slice A4 l4.length c4, .slice A5 l5.length c5, .slice A6 l6.length c6, .int .i64 a7] 24)) (.cells #[.int .i64 q0, .int .i64 q1, .int .i64 q2] 43)
    rwa [show (w.alloc (.cells #[.int .i64 a0, .int .i64 a1, .int .i64 a2, .int .i64 a3, .slice A4 l4.length c4, .slice A5 l5.length c5, .slice A6 l6.length c6, .int .i64 a7] 24)).heap.size = w.heap.size + 1 from by simp] at this)
  clear h4 h5 h6 hG SH MD TX hss hxs hL hl hn hcall RC0 hnm hmem hg hgs hgu
  go_enter Tryz.func7, Tryz.ntmps7
  go_wp2_with (first
    | (go_at_call 10; refine (awake_calls _ (HG.out.below HB1.out)).mono ?_; rintro e w2 ⟨rfl, hb⟩; dsimp only; have HB2 := Lib.hid (below_step HB1.out hb); have Q2 := Lib.hid (blk_on Q1.out hb); obtain ⟨y0, y1, y2, y3, y4, y5, y6, y7⟩ := cells8p (blk_on K1.out hb); clear K1; clear hb HB1 Q1)
    | (go_at_call 11; refine (HMD.out _ (HS4.out.below HB2.out) (HS5.out.below HB2.out) (HS6.out.below HB2.out)).mono ?_; rintro e w3 ⟨B_1, B_c1, B_4, B_c4, B_5, B_c5, B_6, B_c6, rfl, hR, hb⟩; dsimp only; have HB3 := Lib.hid (below_step HB2.out hb); have Q3 := Lib.hid (blk_on Q2.out hb); have RT3 := Lib.hid hR; clear hR y0 y1 y2 y3 y4 y5 y6 y7; clear hb HB2 Q2)
    | (go_at_call 12; refine (HTX.out _ _ _ _ _ _ _ _ _ RT3.out).mono ?_; rintro e w4 ⟨rfl, hb⟩; dsimp only; have HB4 := Lib.hid (below_step HB3.out hb); have Q4 := Lib.hid (blk_on Q3.out hb); clear RT3; clear hb HB3 Q3)
    | (go_at_call 27; refine (HLI.out _).mono ?_; rintro e w5 ⟨v5, rfl, hr, hb⟩; dsimp only; have HB5 := Lib.hid (below_step HB4.out hb); have Q5 := Lib.hid (blk_on Q4.out hb); obtain ⟨A5_, c5_, hv5⟩ := Kd.R_slice hr; subst hv5; have HL5 := Lib.hid (Kd.R_reads' hr).2.2; have d1 : w5.cell? ⟨w.heap.size + 1, 1, none⟩ = some (.int .i64 q1) := (blk_cell Q5.out 1).trans rfl; clear hr; clear hb HB4 Q4)
    | (go_at_call 20; refine (RC.out _).mono ?_; rintro e w6 ⟨rfl, hb⟩; dsimp only; have HB6 := Lib.hid (below_step HB5.out hb); have Q6 := Lib.hid (blk_on Q5.out hb); obtain ⟨ad, ea, xa⟩ := Kd.at_string (Kd.C_below HL5.out hb) z z0 z1; subst ea; rw [HRD.out] at xa; clear d1 HL5; clear hb HB5 Q5)
    | (go_at_call 28; refine (HNA.out _).mono ?_; rintro e w7 ⟨rfl, hb⟩; dsimp only; have HB7 := Lib.hid (below_step HB6.out hb); have Q7 := Lib.hid (blk_on Q6.out hb); clear xa; clear hb HB6 Q6)
    | (go_at_call 18; refine (HSH.out _).mono ?_; rintro e w8 ⟨rfl, hb⟩; dsimp only; have HB8 := Lib.hid (below_step HB7.out hb); have Q8 := Lib.hid (blk_on Q7.out hb); clear hb HB7 Q7)
    | (go_at_call 29; refine (tells_calls s (by have := HSS.out; omega) _ (HG.out.below HB8.out)).mono ?_; rintro e w9 ⟨rfl, hb⟩; dsimp only; have HB9 := Lib.hid (below_step HB8.out hb); have Q9 := Lib.hid (blk_on Q8.out hb); clear hb HB8 Q8)
    | (go_at_call 29; refine (tells_calls x (by have := HXS.out; omega) _ (HG.out.below HB9.out)).mono ?_; rintro e w10 ⟨rfl, hb⟩; dsimp only; have HB10 := Lib.hid (below_step HB9.out hb); have Q10 := Lib.hid (blk_on Q9.out hb); have d0 : w10.cell? ⟨w.heap.size + 1, 0, none⟩ = some (.int .i64 q0) := (blk_cell Q10.out 0).trans rfl; have d1 : w10.cell? ⟨w.heap.size + 1, 1, none⟩ = some (.int .i64 q1) := (blk_cell Q10.out 1).trans rfl; have d2 : w10.cell? ⟨w.heap.size + 1, 2, none⟩ = some (.int .i64 q2) := (blk_cell Q10.out 2).trans rfl; clear hb HB9 Q9)
    | (go_at_call 19; refine (HSPX.out _).mono ?_; rintro e w11 ⟨t, rfl, ht, hb⟩; dsimp only; have HB11 := Lib.hid (below_step HB10.out hb); have Q11 := Lib.hid (blk_on Q10.out hb); have HT := Lib.hid ht; clear ht d0 d1 d2 HSPX; clear hb HB10 Q10)
    | (go_at_call 29; refine (tells_calls t (by have := HT.out; have := HXS.out; omega) _ (HG.out.below HB11.out)).mono ?_; rintro e w12 ⟨rfl, hb⟩; dsimp only; have HB12 := Lib.hid (below_step HB11.out hb); have Q12 := Lib.hid (blk_on Q11.out hb); clear hb HB11 Q11)
    | (go_at_call 14; refine (HUP.out _).mono ?_; rintro e w13 ⟨rfl, hb⟩; dsimp only; have HB13 := Lib.hid (below_step HB12.out hb); have Q13 := Lib.hid (blk_on Q12.out hb); clear hb HB12 Q12)
    | (go_at_call 29; refine (tells_calls gu (by have := HGU.out; omega) _ (HG.out.below HB13.out)).mono ?_; rintro e w14 ⟨rfl, hb⟩; dsimp only; have HB14 := Lib.hid (below_step HB13.out hb); have Q14 := Lib.hid (blk_on Q13.out hb); have d0 : w14.cell? ⟨w.heap.size + 1, 0, none⟩ = some (.int .i64 q0) := (blk_cell Q14.out 0).trans rfl; have d1 : w14.cell? ⟨w.heap.size + 1, 1, none⟩ = some (.int .i64 q1) := (blk_cell Q14.out 1).trans rfl; have d2 : w14.cell? ⟨w.heap.size + 1, 2, none⟩ = some (.int .i64 q2) := (blk_cell Q14.out 2).trans rfl; clear hb HB13 Q13)
    | (go_at_call 19; refine (HSPG.out _).mono ?_; rintro e w15 ⟨t2, rfl, ht, hb⟩; dsimp only; have HB15 := Lib.hid (below_step HB14.out hb); have Q15 := Lib.hid (blk_on Q14.out hb); have HT2 := Lib.hid ht; clear ht d0 d1 d2; clear hb HB14 Q14)
    | (go_at_call 29; refine (tells_calls t2 (by have := HT2.out; have := HGS.out; omega) _ (HG.out.below HB15.out)).mono ?_; rintro e w16 ⟨rfl, hb⟩; dsimp only; have HB16 := Lib.hid (below_step HB15.out hb); have Q16 := Lib.hid (blk_on Q15.out hb); clear hb HB15 Q15)
    | (go_at_call 18; refine (HSH.out _).mono ?_; rintro e w17 ⟨rfl, hb⟩; dsimp only; have HB17 := Lib.hid (below_step HB16.out hb); have Q17 := Lib.hid (blk_on Q16.out hb); clear hb HB16 Q16)
    | (go_at_call 29; refine (HTLL.out _ (HG.out.below HB17.out)).mono ?_; rintro e w18 ⟨rfl, hb⟩; dsimp only; have HB18 := Lib.hid (below_step HB17.out hb); have Q18 := Lib.hid (blk_on Q17.out hb); clear hb HB17 Q17))
  go_ret
  exact ⟨rfl, HB18.out⟩
theorem ParseTells_calls (s0 : ByteArray) (a0 a1 a2 a3 : Int) (A4 : Option Addr) (c4 : Nat) (l4 : List Int) (A5 : Option Addr) (c5 : Nat) (l5 : List Int) (A6 : Option Addr) (c6 : Nat) (l6 : List Int) (a7 : Int) (q0 q1 q2 : Int) (w : World) (h4 : IntsC w A4 c4 l4) (h5 : IntsC w A5 c5 l5) (h6 : IntsC w A6 c6 l6) (hG : Given w) :
    Calls Tryz.prog 7 #[.string s0, .agg #[.int .i64 a0, .int .i64 a1, .int .i64 a2, .int .i64 a3, .slice A4 l4.length c4, .slice A5 l5.length c5, .slice A6 l6.length c6, .int .i64 a7], .agg #[.int .i64 q0, .int .i64 q1, .int .i64 q2]] w fun e w' => e = .returned (.bool true) ∧ Below w.heap.size w w' := by
  obtain ⟨B, hB, MD0⟩ := made_calls a0 a1 a2 a3 l4 l5 l6 a7
  have hf : FewS (spoiltT B (oddN a7)) := hB.fewS (oddN a7)
  have ht : TxtS (spoiltT B (oddN a7)) := baseT_txtS hB (oddN a7)
  have hm : Small (spoiltT B (oddN a7)) := base_small hB (oddN a7)
  generalize spoiltT B (oddN a7) = T at MD0 hf ht hm
  have hx : (textT T).length ≤ 1300 := hm.text ht
  obtain ⟨L, hL, hl, hn⟩ := list05
  exact ptells s0 (shortB s0) (mk (textT T)) a0 a1 a2 a3 A4 c4 l4 A5 c5 l5 A6 c6 l6 a7 q0 q1 q2 w h4 h5 h6 hG T (shortB_size s0) (by rw [mk_size]; exact hx) L hL hl hn (fun W => short_calls s0 W) (fun W i4 i5 i6 => MD0 A4 c4 A5 c5 A6 c6 W i4 i5 i6) (fun W A1 c1 A4 c4 A5 c5 A6 c6 h => text_calls h hf ht)
def w7_ParseTells.f (k : Nat) (s0 : ByteArray) (a0 a1 a2 a3 : Int) (l4 l5 l6 : List Int) (a7 : Int) (q0 q1 q2 : Int) : Option Bool := some true
theorem w7_ParseTells.calls (k : Nat) (s0 : ByteArray) (a0 a1 a2 a3 : Int) (A4 : Option Addr) (c4 : Nat) (l4 : List Int) (A5 : Option Addr) (c5 : Nat) (l5 : List Int) (A6 : Option Addr) (c6 : Nat) (l6 : List Int) (a7 : Int) (q0 q1 q2 : Int) (r : Bool) (w : World) (h4 : Kd.C (Kd.int .i64) w A4 l4.length l4) (g4 : l4.length ≤ c4) (h5 : Kd.C (Kd.int .i64) w A5 l5.length l5) (g5 : l5.length ≤ c5) (h6 : Kd.C (Kd.int .i64) w A6 l6.length l6) (g6 : l6.length ≤ c6) (hG : Given w) (h : w7_ParseTells.f k s0 a0 a1 a2 a3 l4 l5 l6 a7 q0 q1 q2 = some r) :
    Calls Tryz.prog 7 #[.string s0, .agg #[.int .i64 a0, .int .i64 a1, .int .i64 a2, .int .i64 a3, .slice A4 l4.length c4, .slice A5 l5.length c5, .slice A6 l6.length c6, .int .i64 a7], .agg #[.int .i64 q0, .int .i64 q1, .int .i64 q2]] w fun e w' => e = .returned (.bool r) ∧ Below w.heap.size w w' := by
  obtain rfl := Option.some.inj h
  exact ParseTells_calls s0 a0 a1 a2 a3 A4 c4 l4 A5 c5 l5 A6 c6 l6 a7 q0 q1 q2 w ⟨h4, g4⟩ ⟨h5, g5⟩ ⟨h6, g6⟩ hG
end Go.Proofs.YtejnfbfikadpdaaGreatDoor.P
