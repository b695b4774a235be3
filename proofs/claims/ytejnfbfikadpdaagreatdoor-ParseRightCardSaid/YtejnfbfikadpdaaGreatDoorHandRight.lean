/- The law's right, walked: what is parsed is right and its own text in small letters; where parsing fails stands a subtag or the end. Condition: the error's variable and the names; a text of 1900 bytes at most. -/
import Derived.Test.YtejnfbfikadpdaaGreatDoorPureRight
import Derived.Test.YtejnfbfikadpdaaGreatDoorHandSp7
import Derived.Test.YtejnfbfikadpdaaGreatDoorPx10
namespace Go.Proofs.YtejnfbfikadpdaaGreatDoor.P
open Go.RowKit Go.Shelf Go.Proofs.YtejnfbfikadpdaaGreatDoorW.PrintWords Go.Proofs.YtejnfbfikadpdaaGreatDoorW.PrintLast Go.Proofs.YtejnfbfikadpdaaGreatDoorW.PrintMore Go.Proofs.YtejnfbfikadpdaaGreatDoor.Iso
set_option linter.unusedVariables false
set_option linter.unusedSimpArgs false
attribute [local go_sem] Oper.semAt_some
set_option maxRecDepth 100000 in
set_option maxHeartbeats 16000000 in
theorem lright_good (s x : ByteArray) (w : World) (hN : NamesIn w) (U : TG)
    (PA : ∀ W, NamesIn W → Calls Tryz.prog 13 #[.string s] W fun e W' => ∃ A1 c1 A4 c4 A5 c5 A6 c6, e = .returned (.tuple #[.agg (tagCells U A1 c1 A4 c4 A5 c5 A6 c6), .nilIface]) ∧ RowsC W' U A1 c1 A4 c4 A5 c5 A6 c6 ∧ Below W.heap.size W W')
    (RT : ∀ W A1 c1 A4 c4 A5 c5 A6 c6, NamesIn W → RowsC W U A1 c1 A4 c4 A5 c5 A6 c6 → Calls Tryz.prog 65 #[.agg (tagCells U A1 c1 A4 c4 A5 c5 A6 c6)] W fun e W' => e = .returned (.bool true) ∧ Below W.heap.size W W')
    (TX : ∀ W A1 c1 A4 c4 A5 c5 A6 c6, RowsC W U A1 c1 A4 c4 A5 c5 A6 c6 → Calls Tryz.prog 12 #[.agg (tagCells U A1 c1 A4 c4 A5 c5 A6 c6)] W fun e W' => e = .returned (.string x) ∧ Below W.heap.size W W')
    (LO : ∀ W, Calls Tryz.prog 24 #[.string s] W fun e W' => e = .returned (.string x) ∧ Below W.heap.size W W') :
    Calls Tryz.prog 31 #[.string s] w fun e w' => e = .returned (.bool true) ∧ Below w.heap.size w w' := by
  have HN := Lib.hid hN
  have HPA := Lib.hid PA
  have HRT := Lib.hid RT
  have HTX := Lib.hid TX
  have HLO := Lib.hid LO
  clear hN PA RT TX LO
  go_enter Tryz.func31, Tryz.ntmps31
  go_wp2_with (first
    | (go_at_call 13; refine (HPA.out _ HN.out).mono ?_; rintro e w2 ⟨U_1, U_c1, U_4, U_c4, U_5, U_c5, U_6, U_c6,  rfl,  hR, hb⟩; have HB2 := Lib.hid hb; have RU2 := Lib.hid hR;  clear hb hR HPA; obtain ⟨q0, q1, q2, q3, q4, q5, q6, q7⟩ := cells8p (new_blk w2 (.cells (tagCells U U_1 U_c1 U_4 U_c4 U_5 U_c5 U_6 U_c6) 29)))
    | (go_at_call 65; refine (HRT.out _ _ _ _ _ _ _ _ _ (HN.out.on (below_alloc HB2.out (.cells (tagCells U U_1 U_c1 U_4 U_c4 U_5 U_c5 U_6 U_c6) 29))) (RU2.out.below (below_alloc (Below.refl _ _) (.cells (tagCells U U_1 U_c1 U_4 U_c4 U_5 U_c5 U_6 U_c6) 29)))).mono ?_; rintro e w3 ⟨rfl, hb⟩; have HB3 := Lib.hid (below_step (below_alloc HB2.out (.cells (tagCells U U_1 U_c1 U_4 U_c4 U_5 U_c5 U_6 U_c6) 29)) hb); have RU3 := Lib.hid ((RU2.out.below (below_alloc (Below.refl _ _) (.cells (tagCells U U_1 U_c1 U_4 U_c4 U_5 U_c5 U_6 U_c6) 29))).below hb); have K3 := Lib.hid (blk_on (new_blk w2 (.cells (tagCells U U_1 U_c1 U_4 U_c4 U_5 U_c5 U_6 U_c6) 29)) hb); clear q0 q1 q2 q3 q4 q5 q6 q7 hb HB2 RU2 HRT; obtain ⟨q0, q1, q2, q3, q4, q5, q6, q7⟩ := cells8p K3.out)
    | (go_at_call 12; refine (HTX.out _ _ _ _ _ _ _ _ _ RU3.out).mono ?_; rintro e w4 ⟨rfl, hb⟩; have HB4 := Lib.hid (below_step HB3.out hb); clear q0 q1 q2 q3 q4 q5 q6 q7 hb HB3 K3 RU3 HTX)
    | (go_at_call 24; refine (HLO.out _).mono ?_; rintro e w5 ⟨rfl, hb⟩; have HB5 := Lib.hid (below_step HB4.out hb); clear hb HB4 HLO))
  go_ret
  exact ⟨rfl, HB5.out⟩
set_option maxRecDepth 100000 in
set_option maxHeartbeats 16000000 in
theorem lright_bad0 (s t : ByteArray) (k : Int) (n : Nat) (w : World) (hN : NamesIn w) (U : TG) (hs : s.size ≤ 1900) (hn : n = 0)
    (PA : ∀ W, NamesIn W → Calls Tryz.prog 13 #[.string s] W fun e W' => ∃ A1 c1 A4 c4 A5 c5 A6 c6 D, e = .returned (.tuple #[.agg (tagCells U A1 c1 A4 c4 A5 c5 A6 c6), .iface 93 (.pointer (some ⟨D, 0, none⟩))]) ∧ ErrC W' (.bad k n t) (.iface 93 (.pointer (some ⟨D, 0, none⟩))) ∧ RowsC W' U A1 c1 A4 c4 A5 c5 A6 c6 ∧ Below W.heap.size W W')
    (SZ : ∀ W A1 c1 A4 c4 A5 c5 A6 c6, RowsC W U A1 c1 A4 c4 A5 c5 A6 c6 → Calls Tryz.prog 16 #[.agg (tagCells U A1 c1 A4 c4 A5 c5 A6 c6), .agg #[.string ⟨#[]⟩, .slice none 0 0, .string ⟨#[]⟩, .string ⟨#[]⟩, .slice none 0 0, .slice none 0 0, .slice none 0 0, .string ⟨#[]⟩]] W fun e W' => e = .returned (.bool true) ∧ Below W.heap.size W W')
    (PL : ∀ W D, ErrC W (.bad k n t) (.iface 93 (.pointer (some ⟨D, 0, none⟩))) → Calls Tryz.prog 26 #[.iface 93 (.pointer (some ⟨D, 0, none⟩))] W fun e W' => e = .returned (.int .i64 n) ∧ Below W.heap.size W W') :
    Calls Tryz.prog 31 #[.string s] w fun e w' => e = .returned (.bool true) ∧ Below w.heap.size w w' := by
  have HN := Lib.hid hN
  have HPA := Lib.hid PA
  have HSZ := Lib.hid SZ
  have HPL := Lib.hid PL
  subst hn
  have p2 : (0 : Int) ≤ (s.size : Int) := by omega
  have p3 : decide ((0 : Int) ≤ (s.size : Int)) = true := decide_eq_true p2
  clear hN PA SZ PL
  go_enter Tryz.func31, Tryz.ntmps31
  go_wp2_with (first
    | (go_at_call 13; refine (HPA.out _ HN.out).mono ?_; rintro e w2 ⟨U_1, U_c1, U_4, U_c4, U_5, U_c5, U_6, U_c6, D, rfl, hE, hR, hb⟩; have HB2 := Lib.hid hb; have RU2 := Lib.hid hR; have HE2 := Lib.hid hE; clear hE; clear hb hR HPA; obtain ⟨q0, q1, q2, q3, q4, q5, q6, q7⟩ := cells8p (new_blk w2 (.cells (tagCells U U_1 U_c1 U_4 U_c4 U_5 U_c5 U_6 U_c6) 29)))
    | (go_at_call 16; refine (HSZ.out _ _ _ _ _ _ _ _ _ (RU2.out.below (below_alloc (Below.refl _ _) (.cells (tagCells U U_1 U_c1 U_4 U_c4 U_5 U_c5 U_6 U_c6) 29)))).mono ?_; rintro e w3 ⟨rfl, hb⟩; have HB3 := Lib.hid (below_step (below_alloc HB2.out (.cells (tagCells U U_1 U_c1 U_4 U_c4 U_5 U_c5 U_6 U_c6) 29)) hb); have HE3 := Lib.hid ((HE2.out.below (below_alloc (Below.refl _ _) (.cells (tagCells U U_1 U_c1 U_4 U_c4 U_5 U_c5 U_6 U_c6) 29))).below hb); clear q0 q1 q2 q3 q4 q5 q6 q7 hb HB2 RU2 HE2 HSZ)
    | (go_at_call 26; refine (HPL.out _ _ HE3.out).mono ?_; rintro e w4 ⟨rfl, hb⟩; have HB4 := Lib.hid (below_step HB3.out hb); clear hb HB3 HE3 HPL))
  all_goals go_ret
  all_goals exact ⟨rfl, HB4.out⟩
set_option maxRecDepth 100000 in
set_option maxHeartbeats 16000000 in
theorem lright_bad1 (s t : ByteArray) (k : Int) (n : Nat) (w : World) (hN : NamesIn w) (U : TG) (hs : s.size ≤ 1900) (hn : n = s.size) (h0 : n ≠ 0)
    (PA : ∀ W, NamesIn W → Calls Tryz.prog 13 #[.string s] W fun e W' => ∃ A1 c1 A4 c4 A5 c5 A6 c6 D, e = .returned (.tuple #[.agg (tagCells U A1 c1 A4 c4 A5 c5 A6 c6), .iface 93 (.pointer (some ⟨D, 0, none⟩))]) ∧ ErrC W' (.bad k n t) (.iface 93 (.pointer (some ⟨D, 0, none⟩))) ∧ RowsC W' U A1 c1 A4 c4 A5 c5 A6 c6 ∧ Below W.heap.size W W')
    (SZ : ∀ W A1 c1 A4 c4 A5 c5 A6 c6, RowsC W U A1 c1 A4 c4 A5 c5 A6 c6 → Calls Tryz.prog 16 #[.agg (tagCells U A1 c1 A4 c4 A5 c5 A6 c6), .agg #[.string ⟨#[]⟩, .slice none 0 0, .string ⟨#[]⟩, .string ⟨#[]⟩, .slice none 0 0, .slice none 0 0, .slice none 0 0, .string ⟨#[]⟩]] W fun e W' => e = .returned (.bool true) ∧ Below W.heap.size W W')
    (PL : ∀ W D, ErrC W (.bad k n t) (.iface 93 (.pointer (some ⟨D, 0, none⟩))) → Calls Tryz.prog 26 #[.iface 93 (.pointer (some ⟨D, 0, none⟩))] W fun e W' => e = .returned (.int .i64 n) ∧ Below W.heap.size W W') :
    Calls Tryz.prog 31 #[.string s] w fun e w' => e = .returned (.bool true) ∧ Below w.heap.size w w' := by
  have HN := Lib.hid hN
  have HPA := Lib.hid PA
  have HSZ := Lib.hid SZ
  have HPL := Lib.hid PL
  have p1 : (0 : Int) ≤ (n : Int) := by omega
  have p2 : (n : Int) ≤ (s.size : Int) := by omega
  have p3 : decide ((n : Int) ≤ (s.size : Int)) = true := decide_eq_true p2
  have p4 : decide ((0 : Int) ≤ (n : Int)) = true := decide_eq_true p1
  have p5 : ((n : Int) == 0) = false := by rw [beq_eq_false_iff_ne]; omega
  have p6 : decide ((n : Int) = 0) = false := decide_eq_false (by omega)
  have p7 : ((n : Int) == (s.size : Int)) = true := by rw [hn]; exact beq_self_eq_true _
  have p8 : decide ((n : Int) = (s.size : Int)) = true := decide_eq_true (by rw [hn])
  clear hN PA SZ PL
  go_enter Tryz.func31, Tryz.ntmps31
  go_wp2_with (first
    | (go_at_call 13; refine (HPA.out _ HN.out).mono ?_; rintro e w2 ⟨U_1, U_c1, U_4, U_c4, U_5, U_c5, U_6, U_c6, D, rfl, hE, hR, hb⟩; have HB2 := Lib.hid hb; have RU2 := Lib.hid hR; have HE2 := Lib.hid hE; clear hE; clear hb hR HPA; obtain ⟨q0, q1, q2, q3, q4, q5, q6, q7⟩ := cells8p (new_blk w2 (.cells (tagCells U U_1 U_c1 U_4 U_c4 U_5 U_c5 U_6 U_c6) 29)))
    | (go_at_call 16; refine (HSZ.out _ _ _ _ _ _ _ _ _ (RU2.out.below (below_alloc (Below.refl _ _) (.cells (tagCells U U_1 U_c1 U_4 U_c4 U_5 U_c5 U_6 U_c6) 29)))).mono ?_; rintro e w3 ⟨rfl, hb⟩; have HB3 := Lib.hid (below_step (below_alloc HB2.out (.cells (tagCells U U_1 U_c1 U_4 U_c4 U_5 U_c5 U_6 U_c6) 29)) hb); have HE3 := Lib.hid ((HE2.out.below (below_alloc (Below.refl _ _) (.cells (tagCells U U_1 U_c1 U_4 U_c4 U_5 U_c5 U_6 U_c6) 29))).below hb); clear q0 q1 q2 q3 q4 q5 q6 q7 hb HB2 RU2 HE2 HSZ)
    | (go_at_call 26; refine (HPL.out _ _ HE3.out).mono ?_; rintro e w4 ⟨rfl, hb⟩; have HB4 := Lib.hid (below_step HB3.out hb); clear hb HB3 HE3 HPL))
  all_goals go_ret
  all_goals exact ⟨rfl, HB4.out⟩
set_option maxRecDepth 100000 in
set_option maxHeartbeats 16000000 in
theorem lright_bad2 (s t : ByteArray) (k : Int) (n : Nat) (w : World) (hN : NamesIn w) (U : TG) (hs : s.size ≤ 1900) (hn : n ≤ s.size) (h0 : n ≠ 0) (h1 : n ≠ s.size) (hc : (bl s)[n - 1]? = some 45)
    (PA : ∀ W, NamesIn W → Calls Tryz.prog 13 #[.string s] W fun e W' => ∃ A1 c1 A4 c4 A5 c5 A6 c6 D, e = .returned (.tuple #[.agg (tagCells U A1 c1 A4 c4 A5 c5 A6 c6), .iface 93 (.pointer (some ⟨D, 0, none⟩))]) ∧ ErrC W' (.bad k n t) (.iface 93 (.pointer (some ⟨D, 0, none⟩))) ∧ RowsC W' U A1 c1 A4 c4 A5 c5 A6 c6 ∧ Below W.heap.size W W')
    (SZ : ∀ W A1 c1 A4 c4 A5 c5 A6 c6, RowsC W U A1 c1 A4 c4 A5 c5 A6 c6 → Calls Tryz.prog 16 #[.agg (tagCells U A1 c1 A4 c4 A5 c5 A6 c6), .agg #[.string ⟨#[]⟩, .slice none 0 0, .string ⟨#[]⟩, .string ⟨#[]⟩, .slice none 0 0, .slice none 0 0, .slice none 0 0, .string ⟨#[]⟩]] W fun e W' => e = .returned (.bool true) ∧ Below W.heap.size W W')
    (PL : ∀ W D, ErrC W (.bad k n t) (.iface 93 (.pointer (some ⟨D, 0, none⟩))) → Calls Tryz.prog 26 #[.iface 93 (.pointer (some ⟨D, 0, none⟩))] W fun e W' => e = .returned (.int .i64 n) ∧ Below W.heap.size W W') :
    Calls Tryz.prog 31 #[.string s] w fun e w' => e = .returned (.bool true) ∧ Below w.heap.size w w' := by
  have HN := Lib.hid hN
  have HPA := Lib.hid PA
  have HSZ := Lib.hid SZ
  have HPL := Lib.hid PL
  have p1 : (0 : Int) ≤ (n : Int) := by omega
  have p2 : (n : Int) ≤ (s.size : Int) := by omega
  have p3 : decide ((n : Int) ≤ (s.size : Int)) = true := decide_eq_true p2
  have p4 : decide ((0 : Int) ≤ (n : Int)) = true := decide_eq_true p1
  have p5 : ((n : Int) == 0) = false := by rw [beq_eq_false_iff_ne]; omega
  have p6 : decide ((n : Int) = 0) = false := decide_eq_false (by omega)
  have p7 : ((n : Int) == (s.size : Int)) = false := by rw [beq_eq_false_iff_ne]; omega
  have p8 : decide ((n : Int) = (s.size : Int)) = false := decide_eq_false (by omega)
  have p9 : wrap64 ((n : Int) - 1) = ((n - 1 : Nat) : Int) := by unfold wrap64; omega
  have p10 : n - 1 < s.size := by omega
  have p11 : ((n - 1 : Nat) : Int) < (s.size : Int) := by omega
  have p12 : ∀ h : n - 1 < s.size, s[n - 1]'h = (45 : UInt8) := fun h => by
    rw [List.getElem?_eq_getElem (by rw [bl_len]; exact h)] at hc
    have := Option.some.inj hc
    simp only [bl, Array.getElem_toList] at this
    exact this
  clear hN PA SZ PL
  go_enter Tryz.func31, Tryz.ntmps31
  go_wp2_with (first
    | (go_at_call 13; refine (HPA.out _ HN.out).mono ?_; rintro e w2 ⟨U_1, U_c1, U_4, U_c4, U_5, U_c5, U_6, U_c6, D, rfl, hE, hR, hb⟩; have HB2 := Lib.hid hb; have RU2 := Lib.hid hR; have HE2 := Lib.hid hE; clear hE; clear hb hR HPA; obtain ⟨q0, q1, q2, q3, q4, q5, q6, q7⟩ := cells8p (new_blk w2 (.cells (tagCells U U_1 U_c1 U_4 U_c4 U_5 U_c5 U_6 U_c6) 29)))
    | (go_at_call 16; refine (HSZ.out _ _ _ _ _ _ _ _ _ (RU2.out.below (below_alloc (Below.refl _ _) (.cells (tagCells U U_1 U_c1 U_4 U_c4 U_5 U_c5 U_6 U_c6) 29)))).mono ?_; rintro e w3 ⟨rfl, hb⟩; have HB3 := Lib.hid (below_step (below_alloc HB2.out (.cells (tagCells U U_1 U_c1 U_4 U_c4 U_5 U_c5 U_6 U_c6) 29)) hb); have HE3 := Lib.hid ((HE2.out.below (below_alloc (Below.refl _ _) (.cells (tagCells U U_1 U_c1 U_4 U_c4 U_5 U_c5 U_6 U_c6) 29))).below hb); clear q0 q1 q2 q3 q4 q5 q6 q7 hb HB2 RU2 HE2 HSZ)
    | (go_at_call 26; refine (HPL.out _ _ HE3.out).mono ?_; rintro e w4 ⟨rfl, hb⟩; have HB4 := Lib.hid (below_step HB3.out hb); clear hb HB3 HE3 HPL))
  all_goals go_ret
  all_goals exact ⟨rfl, HB4.out⟩
theorem lright_calls (s : ByteArray) (hs : s.size ≤ 1900) (w : World) (hG : Given w) :
    Calls Tryz.prog 31 #[.string s] w fun e w' => e = .returned (.bool true) ∧ Below w.heap.size w w' := by
  cases hr : parseR s with
  | good U =>
    obtain ⟨hR, hT⟩ := parse_right hr
    obtain ⟨f, t, fit⟩ := parsed_fit hr hs
    refine lright_good s (mk (low (bl s))) w hG.names U ?_ ?_ ?_ ?_
    · intro W h
      have P := Parse_tag s (by omega) W h
      rw [hr] at P
      refine P.mono ?_
      rintro e W' ⟨A1, c1, A4, c4, A5, c5, A6, c6, ev, he, hE, hRw, hb⟩
      obtain rfl : ev = .nilIface := hE
      exact ⟨A1, c1, A4, c4, A5, c5, A6, c6, he, hRw, hb⟩
    · intro W A1 c1 A4 c4 A5 c5 A6 c6 hN h
      have := Right_calls U A1 c1 A4 c4 A5 c5 A6 c6 W h fit hN hR
      rwa [hR] at this
    · intro W A1 c1 A4 c4 A5 c5 A6 c6 h
      have := text_calls h f t
      rwa [hT] at this
    · exact fun W => lower02_calls s (by omega) W
  | bad k a t =>
    obtain ⟨n, rfl, hn, hc⟩ := place_ok hr
    have PA : ∀ W, NamesIn W → Calls Tryz.prog 13 #[.string s] W fun e W' => ∃ A1 c1 A4 c4 A5 c5 A6 c6 D, e = .returned (.tuple #[.agg (tagCells T0 A1 c1 A4 c4 A5 c5 A6 c6), .iface 93 (.pointer (some ⟨D, 0, none⟩))]) ∧ ErrC W' (.bad k n t) (.iface 93 (.pointer (some ⟨D, 0, none⟩))) ∧ RowsC W' T0 A1 c1 A4 c4 A5 c5 A6 c6 ∧ Below W.heap.size W W' := by
      intro W h
      have P := Parse_tag s (by omega) W h
      rw [hr] at P
      refine P.mono ?_
      rintro e W' ⟨A1, c1, A4, c4, A5, c5, A6, c6, ev, he, hE, hRw, hb⟩
      obtain ⟨B, rfl, hF⟩ := hE
      exact ⟨A1, c1, A4, c4, A5, c5, A6, c6, B, he, ⟨B, rfl, hF⟩, hRw, hb⟩
    have SZ : ∀ W A1 c1 A4 c4 A5 c5 A6 c6, RowsC W T0 A1 c1 A4 c4 A5 c5 A6 c6 → Calls Tryz.prog 16 #[.agg (tagCells T0 A1 c1 A4 c4 A5 c5 A6 c6), .agg #[.string ⟨#[]⟩, .slice none 0 0, .string ⟨#[]⟩, .string ⟨#[]⟩, .slice none 0 0, .slice none 0 0, .slice none 0 0, .string ⟨#[]⟩]] W fun e W' => e = .returned (.bool true) ∧ Below W.heap.size W W' := by
      intro W A1 c1 A4 c4 A5 c5 A6 c6 h
      have hz : RowsC W T0 none 0 none 0 none 0 none 0 := ⟨⟨Kd.C_nil _ _, Nat.zero_le _⟩, ⟨Kd.C_nil _ _, Nat.zero_le _⟩, ⟨Kd.C_nil _ _, Nat.zero_le _⟩, ⟨Kd.C_nil _ _, Nat.zero_le _⟩⟩
      have := same_calls (T := T0) (U := T0) h hz
      rw [sameT_refl] at this
      exact this
    have PL : ∀ W D, ErrC W (.bad k n t) (.iface 93 (.pointer (some ⟨D, 0, none⟩))) → Calls Tryz.prog 26 #[.iface 93 (.pointer (some ⟨D, 0, none⟩))] W fun e W' => e = .returned (.int .i64 n) ∧ Below W.heap.size W W' := fun W D h => place_calls h
    by_cases h0 : n = 0
    · exact lright_bad0 s t k n w hG.names T0 hs h0 PA SZ PL
    · by_cases h1 : n = s.size
      · exact lright_bad1 s t k n w hG.names T0 hs h1 h0 PA SZ PL
      · exact lright_bad2 s t k n w hG.names T0 hs hn h0 h1 ((hc.resolve_left h0).resolve_left h1) PA SZ PL
end Go.Proofs.YtejnfbfikadpdaaGreatDoor.P
