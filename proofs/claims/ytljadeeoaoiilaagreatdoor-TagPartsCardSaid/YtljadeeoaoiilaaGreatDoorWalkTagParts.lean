/- The law TagParts, walked. Condition: the names. -/
import Derived.Test.YtljadeeoaoiilaaGreatDoorSq
import Derived.Test.YtljadeeoaoiilaaGreatDoorHandRules
import Derived.Test.YtljadeeoaoiilaaGreatDoorPureParts
import Derived.Test.YtljadeeoaoiilaaGreatDoorHandClone
import Derived.Test.YtljadeeoaoiilaaGreatDoorPx17
import Derived.Test.YtljadeeoaoiilaaGreatDoorPx1
import Derived.Test.YtljadeeoaoiilaaGreatDoorPx15
namespace Go.Proofs.YtljadeeoaoiilaaGreatDoor.P
open Go.RowKit Go.Shelf Go.Proofs.YtljadeeoaoiilaaGreatDoorW.PrintWords Go.Proofs.YtljadeeoaoiilaaGreatDoorW.PrintLast Go.Proofs.YtljadeeoaoiilaaGreatDoorW.PrintMore Go.Proofs.YtljadeeoaoiilaaGreatDoor.Iso
set_option linter.unusedVariables false
set_option linter.unusedSimpArgs false
attribute [local go_sem] Oper.semAt_some
theorem ownT_on {W V : World} {base : Nat} {v1 v4 v5 v6 : Value} {l1 l4 : List ByteArray} {l5 : List S40} {l6 : List ByteArray} (h : OwnT W base v1 v4 v5 v6 l1 l4 l5 l6) (hb : Below W.heap.size W V) : OwnT V base v1 v4 v5 v6 l1 l4 l5 l6 := h.below hb
theorem IntsC.below {W W' : World} {A : Option Addr} {c : Nat} {l : List Int} (h : IntsC W A c l) (hb : Below W.heap.size W W') : IntsC W' A c l := ⟨Kd.C_below h.1 hb, h.2⟩
set_option maxRecDepth 100000 in
set_option maxHeartbeats 16000000 in
theorem parts_noa (a0 a1 a2 a3 : Int) (A4 : Option Addr) (c4 : Nat) (l4 : List Int) (A5 : Option Addr) (c5 : Nat) (l5 : List Int) (A6 : Option Addr) (c6 : Nat) (l6 : List Int) (a7 : Int) (n : Int) (w : World) (h4 : IntsC w A4 c4 l4) (h5 : IntsC w A5 c5 l5) (h6 : IntsC w A6 c6 l6) (hN : NamesIn w) (T : TG) (hl : T.lang = ⟨#[]⟩)
    (AW : ∀ W, Calls Tryz.prog 5 #[] W fun e W' => e = .returned (.bool true) ∧ Below W.heap.size W W')
    (MD : ∀ W, IntsC W A4 c4 l4 → IntsC W A5 c5 l5 → IntsC W A6 c6 l6 → Calls Tryz.prog 7 #[.agg #[.int .i64 a0, .int .i64 a1, .int .i64 a2, .int .i64 a3, .slice A4 l4.length c4, .slice A5 l5.length c5, .slice A6 l6.length c6, .int .i64 a7]] W fun e W' => ∃ A1 c1 A4 c4 A5 c5 A6 c6, e = .returned (.agg (tagCells T A1 c1 A4 c4 A5 c5 A6 c6)) ∧ RowsC W' T A1 c1 A4 c4 A5 c5 A6 c6 ∧ Below W.heap.size W W')
    (PT : ∀ W A1 c1 A4 c4 A5 c5 A6 c6, NamesIn W → RowsC W T A1 c1 A4 c4 A5 c5 A6 c6 → Calls Tryz.prog 8 #[.agg (tagCells T A1 c1 A4 c4 A5 c5 A6 c6)] W fun e W' => e = .returned (.bool false) ∧ Below W.heap.size W W')
    (RT : ∀ W A1 c1 A4 c4 A5 c5 A6 c6, RowsC W T A1 c1 A4 c4 A5 c5 A6 c6 → Calls Tryz.prog 9 #[.agg (tagCells T A1 c1 A4 c4 A5 c5 A6 c6)] W fun e W' => e = .returned (.bool false) ∧ Below W.heap.size W W') :
    Calls Tryz.prog 4 #[.agg #[.int .i64 a0, .int .i64 a1, .int .i64 a2, .int .i64 a3, .slice A4 l4.length c4, .slice A5 l5.length c5, .slice A6 l6.length c6, .int .i64 a7], .int .i64 n] w fun e w' => e = .returned (.bool true) ∧ Below w.heap.size w w' := by
  have k1 : T.lang.toList.isEmpty = true := by rw [hl, bl_toList]; rfl
  have HS4 := Lib.hid h4
  have HS5 := Lib.hid h5
  have HS6 := Lib.hid h6
  have HN := Lib.hid hN
  have HAW := Lib.hid AW
  have HMD := Lib.hid MD
  have HPT := Lib.hid PT
  have HRT := Lib.hid RT
  have HB1 := Lib.hid (below_alloc (Below.refl w.heap.size w) (.cells #[.int .i64 a0, .int .i64 a1, .int .i64 a2, .int .i64 a3, .slice A4 l4.length c4, .slice A5 l5.length c5, .slice A6 l6.length c6, .int .i64 a7] 28))
  have KS := Lib.hid (new_blk w (.cells #[.int .i64 a0, .int .i64 a1, .int .i64 a2, .int .i64 a3, .slice A4 l4.length c4, .slice A5 l5.length c5, .slice A6 l6.length c6, .int .i64 a7] 28))
  clear h4 h5 h6 hN AW MD PT RT hl
  go_enter Tryz.func4, Tryz.ntmps4
  go_wp2_with (first
      | (go_at_call 5; refine (HAW.out _).mono ?_; rintro e w2 ⟨rfl, hb⟩; have HB2 := Lib.hid (below_step HB1.out hb); obtain ⟨q0, q1, q2, q3, q4, q5, q6, q7⟩ := cells8p (blk_on KS.out hb); clear hb HB1 KS HAW)
      | (go_at_call 7; refine (HMD.out _ (HS4.out.below HB2.out) (HS5.out.below HB2.out) (HS6.out.below HB2.out)).mono ?_; rintro e w3 ⟨B_1, B_c1, B_4, B_c4, B_5, B_c5, B_6, B_c6, rfl, hR, hb⟩; have HB3 := Lib.hid (below_step HB2.out hb); have RT3 := Lib.hid hR; clear q0 q1 q2 q3 q4 q5 q6 q7 hb hR HB2 HS4 HS5 HS6 HMD; obtain ⟨q0, q1, q2, q3, q4, q5, q6, q7⟩ := cells8p (new_blk w3 (.cells (tagCells T B_1 B_c1 B_4 B_c4 B_5 B_c5 B_6 B_c6) 25)))
      | (go_at_call 8; refine (HPT.out _ _ _ _ _ _ _ _ _ (HN.out.on (below_alloc HB3.out _)) (RT3.out.below (below_alloc (Below.refl _ _) _))).mono ?_; rintro e w4 ⟨rfl, hb⟩; have HB4 := Lib.hid (below_step (below_alloc HB3.out _) hb); have RT4 := Lib.hid ((RT3.out.below (below_alloc (Below.refl _ _) (.cells (tagCells T B_1 B_c1 B_4 B_c4 B_5 B_c5 B_6 B_c6) 25))).below hb); have KT4 := Lib.hid (blk_on (new_blk w3 (.cells (tagCells T B_1 B_c1 B_4 B_c4 B_5 B_c5 B_6 B_c6) 25)) hb); clear q0 q1 q2 q3 q4 q5 q6 q7; obtain ⟨q0, q1, q2, q3, q4, q5, q6, q7⟩ := cells8p KT4.out; clear hb HB3 RT3 HPT)
      | (go_at_call 9; refine (HRT.out _ _ _ _ _ _ _ _ _ RT4.out).mono ?_; rintro e w5 ⟨rfl, hb⟩; have HB5 := Lib.hid (below_step HB4.out hb); clear q0 q1 q2 q3 q4 q5 q6 q7 hb HB4 RT4 KT4 HRT))
  go_ret
  exact ⟨rfl, HB4.out⟩
set_option maxRecDepth 100000 in
set_option maxHeartbeats 16000000 in
theorem parts_nob (a0 a1 a2 a3 : Int) (A4 : Option Addr) (c4 : Nat) (l4 : List Int) (A5 : Option Addr) (c5 : Nat) (l5 : List Int) (A6 : Option Addr) (c6 : Nat) (l6 : List Int) (a7 : Int) (n : Int) (w : World) (h4 : IntsC w A4 c4 l4) (h5 : IntsC w A5 c5 l5) (h6 : IntsC w A6 c6 l6) (hN : NamesIn w) (T : TG) (hl : T.lang ≠ ⟨#[]⟩)
    (AW : ∀ W, Calls Tryz.prog 5 #[] W fun e W' => e = .returned (.bool true) ∧ Below W.heap.size W W')
    (MD : ∀ W, IntsC W A4 c4 l4 → IntsC W A5 c5 l5 → IntsC W A6 c6 l6 → Calls Tryz.prog 7 #[.agg #[.int .i64 a0, .int .i64 a1, .int .i64 a2, .int .i64 a3, .slice A4 l4.length c4, .slice A5 l5.length c5, .slice A6 l6.length c6, .int .i64 a7]] W fun e W' => ∃ A1 c1 A4 c4 A5 c5 A6 c6, e = .returned (.agg (tagCells T A1 c1 A4 c4 A5 c5 A6 c6)) ∧ RowsC W' T A1 c1 A4 c4 A5 c5 A6 c6 ∧ Below W.heap.size W W')
    (PT : ∀ W A1 c1 A4 c4 A5 c5 A6 c6, NamesIn W → RowsC W T A1 c1 A4 c4 A5 c5 A6 c6 → Calls Tryz.prog 8 #[.agg (tagCells T A1 c1 A4 c4 A5 c5 A6 c6)] W fun e W' => e = .returned (.bool false) ∧ Below W.heap.size W W')
    (RT : ∀ W A1 c1 A4 c4 A5 c5 A6 c6, RowsC W T A1 c1 A4 c4 A5 c5 A6 c6 → Calls Tryz.prog 9 #[.agg (tagCells T A1 c1 A4 c4 A5 c5 A6 c6)] W fun e W' => e = .returned (.bool false) ∧ Below W.heap.size W W') :
    Calls Tryz.prog 4 #[.agg #[.int .i64 a0, .int .i64 a1, .int .i64 a2, .int .i64 a3, .slice A4 l4.length c4, .slice A5 l5.length c5, .slice A6 l6.length c6, .int .i64 a7], .int .i64 n] w fun e w' => e = .returned (.bool true) ∧ Below w.heap.size w w' := by
  have k1 : T.lang.toList.isEmpty = false := List.isEmpty_eq_false_iff.2 (fun h => hl (bl_inj (by rw [← bl_toList, h]; rfl)))
  have HS4 := Lib.hid h4
  have HS5 := Lib.hid h5
  have HS6 := Lib.hid h6
  have HN := Lib.hid hN
  have HAW := Lib.hid AW
  have HMD := Lib.hid MD
  have HPT := Lib.hid PT
  have HRT := Lib.hid RT
  have HB1 := Lib.hid (below_alloc (Below.refl w.heap.size w) (.cells #[.int .i64 a0, .int .i64 a1, .int .i64 a2, .int .i64 a3, .slice A4 l4.length c4, .slice A5 l5.length c5, .slice A6 l6.length c6, .int .i64 a7] 28))
  have KS := Lib.hid (new_blk w (.cells #[.int .i64 a0, .int .i64 a1, .int .i64 a2, .int .i64 a3, .slice A4 l4.length c4, .slice A5 l5.length c5, .slice A6 l6.length c6, .int .i64 a7] 28))
  clear h4 h5 h6 hN AW MD PT RT hl
  go_enter Tryz.func4, Tryz.ntmps4
  go_wp2_with (first
      | (go_at_call 5; refine (HAW.out _).mono ?_; rintro e w2 ⟨rfl, hb⟩; have HB2 := Lib.hid (below_step HB1.out hb); obtain ⟨q0, q1, q2, q3, q4, q5, q6, q7⟩ := cells8p (blk_on KS.out hb); clear hb HB1 KS HAW)
      | (go_at_call 7; refine (HMD.out _ (HS4.out.below HB2.out) (HS5.out.below HB2.out) (HS6.out.below HB2.out)).mono ?_; rintro e w3 ⟨B_1, B_c1, B_4, B_c4, B_5, B_c5, B_6, B_c6, rfl, hR, hb⟩; have HB3 := Lib.hid (below_step HB2.out hb); have RT3 := Lib.hid hR; clear q0 q1 q2 q3 q4 q5 q6 q7 hb hR HB2 HS4 HS5 HS6 HMD; obtain ⟨q0, q1, q2, q3, q4, q5, q6, q7⟩ := cells8p (new_blk w3 (.cells (tagCells T B_1 B_c1 B_4 B_c4 B_5 B_c5 B_6 B_c6) 25)))
      | (go_at_call 8; refine (HPT.out _ _ _ _ _ _ _ _ _ (HN.out.on (below_alloc HB3.out _)) (RT3.out.below (below_alloc (Below.refl _ _) _))).mono ?_; rintro e w4 ⟨rfl, hb⟩; have HB4 := Lib.hid (below_step (below_alloc HB3.out _) hb); have RT4 := Lib.hid ((RT3.out.below (below_alloc (Below.refl _ _) (.cells (tagCells T B_1 B_c1 B_4 B_c4 B_5 B_c5 B_6 B_c6) 25))).below hb); have KT4 := Lib.hid (blk_on (new_blk w3 (.cells (tagCells T B_1 B_c1 B_4 B_c4 B_5 B_c5 B_6 B_c6) 25)) hb); clear q0 q1 q2 q3 q4 q5 q6 q7; obtain ⟨q0, q1, q2, q3, q4, q5, q6, q7⟩ := cells8p KT4.out; clear hb HB3 RT3 HPT)
      | (go_at_call 9; refine (HRT.out _ _ _ _ _ _ _ _ _ RT4.out).mono ?_; rintro e w5 ⟨rfl, hb⟩; have HB5 := Lib.hid (below_step HB4.out hb); clear q0 q1 q2 q3 q4 q5 q6 q7 hb HB4 RT4 KT4 HRT))
  go_ret
  exact ⟨rfl, HB5.out⟩
set_option maxRecDepth 100000 in
set_option maxHeartbeats 16000000 in
theorem parts_noc (a0 a1 a2 a3 : Int) (A4 : Option Addr) (c4 : Nat) (l4 : List Int) (A5 : Option Addr) (c5 : Nat) (l5 : List Int) (A6 : Option Addr) (c6 : Nat) (l6 : List Int) (a7 : Int) (n : Int) (w : World) (h4 : IntsC w A4 c4 l4) (h5 : IntsC w A5 c5 l5) (h6 : IntsC w A6 c6 l6) (hN : NamesIn w) (T : TG) (hl : T.lang = ⟨#[]⟩)
    (AW : ∀ W, Calls Tryz.prog 5 #[] W fun e W' => e = .returned (.bool true) ∧ Below W.heap.size W W')
    (MD : ∀ W, IntsC W A4 c4 l4 → IntsC W A5 c5 l5 → IntsC W A6 c6 l6 → Calls Tryz.prog 7 #[.agg #[.int .i64 a0, .int .i64 a1, .int .i64 a2, .int .i64 a3, .slice A4 l4.length c4, .slice A5 l5.length c5, .slice A6 l6.length c6, .int .i64 a7]] W fun e W' => ∃ A1 c1 A4 c4 A5 c5 A6 c6, e = .returned (.agg (tagCells T A1 c1 A4 c4 A5 c5 A6 c6)) ∧ RowsC W' T A1 c1 A4 c4 A5 c5 A6 c6 ∧ Below W.heap.size W W')
    (PT : ∀ W A1 c1 A4 c4 A5 c5 A6 c6, NamesIn W → RowsC W T A1 c1 A4 c4 A5 c5 A6 c6 → Calls Tryz.prog 8 #[.agg (tagCells T A1 c1 A4 c4 A5 c5 A6 c6)] W fun e W' => e = .returned (.bool true) ∧ Below W.heap.size W W')
    (RT : ∀ W A1 c1 A4 c4 A5 c5 A6 c6, RowsC W T A1 c1 A4 c4 A5 c5 A6 c6 → Calls Tryz.prog 9 #[.agg (tagCells T A1 c1 A4 c4 A5 c5 A6 c6)] W fun e W' => e = .returned (.bool true) ∧ Below W.heap.size W W') :
    Calls Tryz.prog 4 #[.agg #[.int .i64 a0, .int .i64 a1, .int .i64 a2, .int .i64 a3, .slice A4 l4.length c4, .slice A5 l5.length c5, .slice A6 l6.length c6, .int .i64 a7], .int .i64 n] w fun e w' => e = .returned (.bool true) ∧ Below w.heap.size w w' := by
  have k1 : T.lang.toList.isEmpty = true := by rw [hl, bl_toList]; rfl
  have HS4 := Lib.hid h4
  have HS5 := Lib.hid h5
  have HS6 := Lib.hid h6
  have HN := Lib.hid hN
  have HAW := Lib.hid AW
  have HMD := Lib.hid MD
  have HPT := Lib.hid PT
  have HRT := Lib.hid RT
  have HB1 := Lib.hid (below_alloc (Below.refl w.heap.size w) (.cells #[.int .i64 a0, .int .i64 a1, .int .i64 a2, .int .i64 a3, .slice A4 l4.length c4, .slice A5 l5.length c5, .slice A6 l6.length c6, .int .i64 a7] 28))
  have KS := Lib.hid (new_blk w (.cells #[.int .i64 a0, .int .i64 a1, .int .i64 a2, .int .i64 a3, .slice A4 l4.length c4, .slice A5 l5.length c5, .slice A6 l6.length c6, .int .i64 a7] 28))
  clear h4 h5 h6 hN AW MD PT RT hl
  go_enter Tryz.func4, Tryz.ntmps4
  go_wp2_with (first
      | (go_at_call 5; refine (HAW.out _).mono ?_; rintro e w2 ⟨rfl, hb⟩; have HB2 := Lib.hid (below_step HB1.out hb); obtain ⟨q0, q1, q2, q3, q4, q5, q6, q7⟩ := cells8p (blk_on KS.out hb); clear hb HB1 KS HAW)
      | (go_at_call 7; refine (HMD.out _ (HS4.out.below HB2.out) (HS5.out.below HB2.out) (HS6.out.below HB2.out)).mono ?_; rintro e w3 ⟨B_1, B_c1, B_4, B_c4, B_5, B_c5, B_6, B_c6, rfl, hR, hb⟩; have HB3 := Lib.hid (below_step HB2.out hb); have RT3 := Lib.hid hR; clear q0 q1 q2 q3 q4 q5 q6 q7 hb hR HB2 HS4 HS5 HS6 HMD; obtain ⟨q0, q1, q2, q3, q4, q5, q6, q7⟩ := cells8p (new_blk w3 (.cells (tagCells T B_1 B_c1 B_4 B_c4 B_5 B_c5 B_6 B_c6) 25)))
      | (go_at_call 8; refine (HPT.out _ _ _ _ _ _ _ _ _ (HN.out.on (below_alloc HB3.out _)) (RT3.out.below (below_alloc (Below.refl _ _) _))).mono ?_; rintro e w4 ⟨rfl, hb⟩; have HB4 := Lib.hid (below_step (below_alloc HB3.out _) hb); have RT4 := Lib.hid ((RT3.out.below (below_alloc (Below.refl _ _) (.cells (tagCells T B_1 B_c1 B_4 B_c4 B_5 B_c5 B_6 B_c6) 25))).below hb); have KT4 := Lib.hid (blk_on (new_blk w3 (.cells (tagCells T B_1 B_c1 B_4 B_c4 B_5 B_c5 B_6 B_c6) 25)) hb); clear q0 q1 q2 q3 q4 q5 q6 q7; obtain ⟨q0, q1, q2, q3, q4, q5, q6, q7⟩ := cells8p KT4.out; clear hb HB3 RT3 HPT)
      | (go_at_call 9; refine (HRT.out _ _ _ _ _ _ _ _ _ RT4.out).mono ?_; rintro e w5 ⟨rfl, hb⟩; have HB5 := Lib.hid (below_step HB4.out hb); clear q0 q1 q2 q3 q4 q5 q6 q7 hb HB4 RT4 KT4 HRT))
  go_ret
  exact ⟨rfl, HB4.out⟩
structure Less (T U : TG) : Prop where
  lang : U.lang = T.lang
  ext : U.ext = T.ext
  script : U.script = T.script ∨ U.script = ⟨#[]⟩
  region : U.region = T.region ∨ U.region = ⟨#[]⟩
  vars : U.vars = T.vars ∨ U.vars = []
  exts : U.exts = T.exts ∨ U.exts = []
  priv : U.priv = T.priv ∨ U.priv = []
  grand : U.grand = T.grand
theorem nil_size : (⟨#[]⟩ : ByteArray).size ≤ 12 := by decide
theorem Less.few {T U : TG} (h : Less T U) (f : FewS T) : FewS U := by
  obtain ⟨h1, h2, h3, h4, h5, h6, h7, h8⟩ := h
  refine ⟨by rw [h2]; exact f.ext, ?_, ?_, ?_, ?_, by rw [h8]; exact f.grand⟩
  · rcases h5 with e | e <;> rw [e]
    · exact f.vars
    · simp
  · rcases h6 with e | e <;> rw [e]
    · exact f.exts
    · simp
  · rcases h7 with e | e <;> rw [e]
    · exact f.priv
    · simp
  · rcases h6 with e | e <;> rw [e]
    · exact f.subs
    · intro x hx; cases hx
theorem Less.txt {T U : TG} (h : Less T U) (f : TxtS T) : TxtS U := by
  obtain ⟨h1, h2, h3, h4, h5, h6, h7, h8⟩ := h
  refine ⟨by rw [h1]; exact f.lang, by rw [h2]; exact f.ext, ?_, ?_, ?_, ?_, ?_, ?_, by rw [h8]; exact f.grand⟩
  · rcases h3 with e | e <;> rw [e]
    · exact f.script
    · exact nil_size
  · rcases h4 with e | e <;> rw [e]
    · exact f.region
    · exact nil_size
  · rcases h5 with e | e <;> rw [e]
    · exact f.vars
    · intro x hx; cases hx
  · rcases h6 with e | e <;> rw [e]
    · exact f.keys
    · intro x hx; cases hx
  · rcases h6 with e | e <;> rw [e]
    · exact f.subs
    · intro x hx; cases hx
  · rcases h7 with e | e <;> rw [e]
    · exact f.priv
    · intro x hx; cases hx
theorem Less.small {T U : TG} (h : Less T U) (f : Small T) : Small U := by
  obtain ⟨h1, h2, h3, h4, h5, h6, h7, h8⟩ := h
  refine ⟨by rw [h2]; exact f.ext, ?_, ?_, ?_, ?_⟩
  · rcases h5 with e | e <;> rw [e]
    · exact f.vars
    · simp
  · rcases h6 with e | e <;> rw [e]
    · exact f.exts
    · simp
  · rcases h7 with e | e <;> rw [e]
    · exact f.priv
    · simp
  · rcases h6 with e | e <;> rw [e]
    · exact f.subs
    · intro x hx; cases hx
theorem sub04_calls (s : ByteArray) (hs : s.size ≤ 140737488355328) (W : World) : Calls Tryz.prog 11 #[.string s] W fun e W' => e = .returned (.bool (isSub (bl s))) ∧ Drawn0 W W' := by
  obtain ⟨k, hk⟩ := (ref_Sub_ev s hs).rounds
  exact r4_Sub.calls k s _ W hk
def tp23_T : Bool × List (List Nat × List Nat) := (true, [([], []), ([0], [0]), ([1], [1]), ([2, 1, 1], [1, 2]), ([1], [1]), ([4, 3, 1], [1, 4]), ([3, 5, 1], [1, 3, 5]), ([1, 6], [1, 6]), ([7, 5, 0, 1, 2, 3, 4, 5, 6, 7], [7])])
def tp23_B : List Nat := [0, 1, 3, 7, 3, 31, 63, 127, 255]
theorem tp23_tab : rtab .any (opsOf Tryz.f4 23) = tp23_T := by kernel_rfl
theorem tp23_bits : waitsOk tp23_T.2 tp23_B = true := by kernel_rfl
set_option maxRecDepth 100000 in
set_option maxHeartbeats 16000000 in
theorem parts_yes (a0 a1 a2 a3 : Int) (A4 : Option Addr) (c4 : Nat) (l4 : List Int) (A5 : Option Addr) (c5 : Nat) (l5 : List Int) (A6 : Option Addr) (c6 : Nat) (l6 : List Int) (a7 : Int) (n : Int) (w : World) (h4 : IntsC w A4 c4 l4) (h5 : IntsC w A5 c5 l5) (h6 : IntsC w A6 c6 l6) (hN : NamesIn w) (T : TG) (hl : T.lang ≠ ⟨#[]⟩) (hF : Fit T) (hs : ∀ s ∈ subsT T, isSub (bl s) = true)
    (AW : ∀ W, Calls Tryz.prog 5 #[] W fun e W' => e = .returned (.bool true) ∧ Below W.heap.size W W')
    (MD : ∀ W, IntsC W A4 c4 l4 → IntsC W A5 c5 l5 → IntsC W A6 c6 l6 → Calls Tryz.prog 7 #[.agg #[.int .i64 a0, .int .i64 a1, .int .i64 a2, .int .i64 a3, .slice A4 l4.length c4, .slice A5 l5.length c5, .slice A6 l6.length c6, .int .i64 a7]] W fun e W' => ∃ A1 c1 A4 c4 A5 c5 A6 c6, e = .returned (.agg (tagCells T A1 c1 A4 c4 A5 c5 A6 c6)) ∧ RowsC W' T A1 c1 A4 c4 A5 c5 A6 c6 ∧ Below W.heap.size W W')
    (PT : ∀ W A1 c1 A4 c4 A5 c5 A6 c6, NamesIn W → RowsC W T A1 c1 A4 c4 A5 c5 A6 c6 → Calls Tryz.prog 8 #[.agg (tagCells T A1 c1 A4 c4 A5 c5 A6 c6)] W fun e W' => e = .returned (.bool true) ∧ Below W.heap.size W W')
    (RT : ∀ W A1 c1 A4 c4 A5 c5 A6 c6, RowsC W T A1 c1 A4 c4 A5 c5 A6 c6 → Calls Tryz.prog 9 #[.agg (tagCells T A1 c1 A4 c4 A5 c5 A6 c6)] W fun e W' => e = .returned (.bool true) ∧ Below W.heap.size W W')
    (PU : ∀ U, Less T U → ∀ W A1 c1 A4 c4 A5 c5 A6 c6, NamesIn W → RowsC W U A1 c1 A4 c4 A5 c5 A6 c6 → Calls Tryz.prog 8 #[.agg (tagCells U A1 c1 A4 c4 A5 c5 A6 c6)] W fun e W' => e = .returned (.bool (rightT U)) ∧ Below W.heap.size W W')
    (RU : ∀ U, Less T U → ∀ W A1 c1 A4 c4 A5 c5 A6 c6, RowsC W U A1 c1 A4 c4 A5 c5 A6 c6 → Calls Tryz.prog 9 #[.agg (tagCells U A1 c1 A4 c4 A5 c5 A6 c6)] W fun e W' => e = .returned (.bool (rightT U)) ∧ Below W.heap.size W W') :
    Calls Tryz.prog 4 #[.agg #[.int .i64 a0, .int .i64 a1, .int .i64 a2, .int .i64 a3, .slice A4 l4.length c4, .slice A5 l5.length c5, .slice A6 l6.length c6, .int .i64 a7], .int .i64 n] w fun e w' => e = .returned (.bool true) ∧ Below w.heap.size w w' := by
  have k1 : T.lang.toList.isEmpty = false := List.isEmpty_eq_false_iff.2 (fun h => hl (bl_inj (by rw [← bl_toList, h]; rfl)))
  have HF := Lib.hid hF
  have HSB := Lib.hid hs
  have HPU := Lib.hid PU
  have HRU := Lib.hid RU
  obtain ⟨ls, hls⟩ : ∃ l, l = subsT T := ⟨_, rfl⟩
  have HLS := Lib.hid hls
  have HLL := Lib.hid (show ls.length ≤ 100000 from by rw [hls]; exact hF.len)
  have HS4 := Lib.hid h4
  have HS5 := Lib.hid h5
  have HS6 := Lib.hid h6
  have HN := Lib.hid hN
  have HAW := Lib.hid AW
  have HMD := Lib.hid MD
  have HPT := Lib.hid PT
  have HRT := Lib.hid RT
  have HB1 := Lib.hid (below_alloc (Below.refl w.heap.size w) (.cells #[.int .i64 a0, .int .i64 a1, .int .i64 a2, .int .i64 a3, .slice A4 l4.length c4, .slice A5 l5.length c5, .slice A6 l6.length c6, .int .i64 a7] 28))
  have KS := Lib.hid (new_blk w (.cells #[.int .i64 a0, .int .i64 a1, .int .i64 a2, .int .i64 a3, .slice A4 l4.length c4, .slice A5 l5.length c5, .slice A6 l6.length c6, .int .i64 a7] 28))
  clear h4 h5 h6 hN AW MD PT RT hl hF hs PU RU hls HRT
  go_enter Tryz.func4, Tryz.ntmps4
  go_wp2_with (first
    | (go_at_call 5; refine (HAW.out _).mono ?_; rintro e w2 ⟨rfl, hb⟩; have HB2 := Lib.hid (below_step HB1.out hb); obtain ⟨q0, q1, q2, q3, q4, q5, q6, q7⟩ := cells8p (blk_on KS.out hb); clear hb HB1 KS HAW)
    | (go_at_call 7; refine (HMD.out _ (HS4.out.below HB2.out) (HS5.out.below HB2.out) (HS6.out.below HB2.out)).mono ?_; rintro e w3 ⟨B_1, B_c1, B_4, B_c4, B_5, B_c5, B_6, B_c6, rfl, hR, hb⟩; have HB3 := Lib.hid (below_step HB2.out hb); have RT3 := Lib.hid hR; clear q0 q1 q2 q3 q4 q5 q6 q7 hb hR HB2 HS4 HS5 HS6 HMD; obtain ⟨q0, q1, q2, q3, q4, q5, q6, q7⟩ := cells8p (new_blk w3 (.cells (tagCells T B_1 B_c1 B_4 B_c4 B_5 B_c5 B_6 B_c6) 25)))
    | (go_at_call 8; refine (HPT.out _ _ _ _ _ _ _ _ _ (HN.out.on (below_alloc HB3.out _)) (RT3.out.below (below_alloc (Below.refl _ _) _))).mono ?_; rintro e w4 ⟨rfl, hb⟩; have HB4 := Lib.hid (below_step (below_alloc HB3.out _) hb); have RT4 := Lib.hid ((RT3.out.below (below_alloc (Below.refl _ _) (.cells (tagCells T B_1 B_c1 B_4 B_c4 B_5 B_c5 B_6 B_c6) 25))).below hb); have KT4 := Lib.hid (blk_on (new_blk w3 (.cells (tagCells T B_1 B_c1 B_4 B_c4 B_5 B_c5 B_6 B_c6) 25)) hb); clear q0 q1 q2 q3 q4 q5 q6 q7; obtain ⟨q0, q1, q2, q3, q4, q5, q6, q7⟩ := cells8p KT4.out; clear hb HB3 RT3 HPT)
    | (go_at_call 10; refine (subT_calls HF.out RT4.out).mono ?_; rintro e w5 ⟨v, rfl, hr, hb⟩; rw [← HLS.out] at hr; obtain ⟨L, d, hv⟩ := Kd.R_slice hr; subst hv; have HL5 := Lib.hid hr; have HB5 := Lib.hid (below_step HB4.out hb); have RT5 := Lib.hid (RT4.out.below hb); have KT5 := Lib.hid (blk_on KT4.out hb); clear q0 q1 q2 q3 q4 q5 q6 q7 hb hr HB4 RT4 KT4))
  go_loopg [8] ls.length (fun kq v8 w' => ∃ i : Nat, v8 = .int .i64 i ∧ kq + i = ls.length ∧ Hid (Below w5.heap.size w5 w'))
  case atStart => exact ⟨0, rfl, rfl, Lib.hid (Below.refl _ _)⟩
  case round =>
    obtain ⟨i, rfl, hk, BR⟩ := hrel
    cases gk with
    | succ k1 =>
      have hL := HLL.out
      have c1 : decide ((i : Int) < (ls.length : Int)) = true := decide_eq_true (by omega)
      have hi : i < ls.length := by omega
      obtain ⟨ad, ea, x0⟩ := Kd.at_string (Kd.C_below (Kd.R_reads' HL5.out).2.2 BR.out) (i : Int) (by omega) (by omega)
      subst ea
      have hsi := HSB.out ls[i] (by rw [← HLS.out]; exact List.getElem_mem hi)
      have SU := Lib.hid (fun W => sub04_calls ls[i] (by have := HF.out.sub ls[i] (by rw [← HLS.out]; exact List.getElem_mem hi); omega) W)
      rw [hsi] at SU
      have hg : rdOf ByteArray.empty ls (i : Int) = ls[i] := by unfold rdOf; rw [Int.toNat_natCast, List.getD_eq_getElem?_getD, List.getElem?_eq_getElem hi]; rfl
      rw [hg, Int.toNat_natCast] at x0
      obtain ⟨s, hs⟩ : ∃ s, s = ls[i] := ⟨_, rfl⟩
      rw [← hs] at SU x0
      clear hsi hg hs
      go_wp2_with (go_at_call 11; refine (SU.out _).mono ?_; rintro e w6 ⟨rfl, hd⟩; have BR6 := Lib.hid (below_step BR.out hd.below); clear hd)
      have hw : wrap64 ((i : Int) + 1) = ((i + 1 : Nat) : Int) := by unfold wrap64; omega
      go_roundg k1
      case measure => omega
      case rel => exact ⟨i + 1, by first | rfl | exact congrArg _ hw, by omega, BR6⟩
    | zero =>
      have c1 : decide ((i : Int) < (ls.length : Int)) = false := decide_eq_false (by omega)
      have RT6 := Lib.hid (RT5.out.below BR.out)
      have KT6 := Lib.hid (blk_on KT5.out BR.out)
      have HB6 := Lib.hid (below_step HB5.out BR.out)
      obtain ⟨q0, q1, q2, q3, q4, q5, q6, q7⟩ := cells8p KT6.out
      clear HB5 RT5 KT5 HL5 BR
      obtain ⟨m, hm⟩ : ∃ m, m = n.tmod 5 := ⟨_, rfl⟩
      have m1 : -4 ≤ n.tmod 5 := by have := Int.lt_tmod_of_pos n (show (0 : Int) < 5 by decide); omega
      have m2 : n.tmod 5 ≤ 4 := by have := Int.tmod_lt_of_pos n (show (0 : Int) < 5 by decide); omega
      go_upto_region 15 with (go_at_call 12; refine (Clone_calls T _ _ _ _ _ _ _ _ _ RT6.out HF.out.next HF.out.nvars HF.out.nexts HF.out.npriv HF.out.nsubs).mono ?_; rintro e w7 ⟨D_1, D_c1, D_4, D_c4, D_5, D_c5, D_6, D_c6, rfl, ho, hb⟩; have HB7 := Lib.hid (below_step HB6.out hb); have RD7 := Lib.hid ho; clear q0 q1 q2 q3 q4 q5 q6 q7 hb ho HB6 RT6 KT6)
      have em := (show ∀ t : Int, (t + 5) % 5 = 0 ∨ (t + 5) % 5 = 1 ∨ (t + 5) % 5 = 2 ∨ (t + 5) % 5 = 3 ∨ (t + 5) % 5 = 4 from fun t => by omega) (n.tmod 5)
      clear hm m1 m2 m
      rcases em with em | em | em | em | em
      focus
        go_upto_region 23 with (fail)
        obtain ⟨W6, hW6⟩ : ∃ V, V = w7.alloc (.cells #[Value.string T.lang, Value.slice D_1 T.ext.length D_c1, Value.string T.script, Value.string T.region, Value.slice none 0 0, Value.slice D_5 T.exts.length D_c5, Value.slice D_6 T.priv.length D_c6, Value.string T.grand] 25) := ⟨_, rfl⟩
        rw [← hW6]
        have P : ∃ U E_1 E_c1 E_4 E_c4 E_5 E_c5 E_6 E_c6, Less T U ∧ W6.heap[w7.heap.size]? = some (.cells (tagCells U E_1 E_c1 E_4 E_c4 E_5 E_c5 E_6 E_c6) 25 (0, 0)) ∧ RowsC W6 U E_1 E_c1 E_4 E_c4 E_5 E_c5 E_6 E_c6 ∧ Below w.heap.size w W6 := by
          have r := (ownT_on RD7.out (below_alloc (Below.refl _ _) (.cells #[Value.string T.lang, Value.slice D_1 T.ext.length D_c1, Value.string T.script, Value.string T.region, Value.slice none 0 0, Value.slice D_5 T.exts.length D_c5, Value.slice D_6 T.priv.length D_c6, Value.string T.grand] 25))).rows
          rw [← hW6] at r
          refine ⟨{ T with vars := [] }, D_1, D_c1, none, 0, D_5, D_c5, D_6, D_c6, ⟨rfl, rfl, .inl rfl, .inl rfl, .inr rfl, .inl rfl, .inl rfl, rfl⟩, ?_, ⟨r.1, ⟨Kd.C_nil _ _, Nat.zero_le _⟩, r.2.2.1, r.2.2.2⟩, ?_⟩
          · rw [hW6]; exact new_blk w7 _
          · rw [hW6]; exact below_alloc HB7.out _
        clear hW6
      rotate_left
      focus
        go_upto_region 23 with (fail)
        obtain ⟨W6, hW6⟩ : ∃ V, V = w7.alloc (.cells #[Value.string T.lang, Value.slice D_1 T.ext.length D_c1, Value.string T.script, Value.string T.region, Value.slice D_4 T.vars.length D_c4, Value.slice none 0 0, Value.slice D_6 T.priv.length D_c6, Value.string T.grand] 25) := ⟨_, rfl⟩
        rw [← hW6]
        have P : ∃ U E_1 E_c1 E_4 E_c4 E_5 E_c5 E_6 E_c6, Less T U ∧ W6.heap[w7.heap.size]? = some (.cells (tagCells U E_1 E_c1 E_4 E_c4 E_5 E_c5 E_6 E_c6) 25 (0, 0)) ∧ RowsC W6 U E_1 E_c1 E_4 E_c4 E_5 E_c5 E_6 E_c6 ∧ Below w.heap.size w W6 := by
          have r := (ownT_on RD7.out (below_alloc (Below.refl _ _) (.cells #[Value.string T.lang, Value.slice D_1 T.ext.length D_c1, Value.string T.script, Value.string T.region, Value.slice D_4 T.vars.length D_c4, Value.slice none 0 0, Value.slice D_6 T.priv.length D_c6, Value.string T.grand] 25))).rows
          rw [← hW6] at r
          refine ⟨{ T with exts := [] }, D_1, D_c1, D_4, D_c4, none, 0, D_6, D_c6, ⟨rfl, rfl, .inl rfl, .inl rfl, .inl rfl, .inr rfl, .inl rfl, rfl⟩, ?_, ⟨r.1, r.2.1, ⟨Kd.C_nil _ _, Nat.zero_le _⟩, r.2.2.2⟩, ?_⟩
          · rw [hW6]; exact new_blk w7 _
          · rw [hW6]; exact below_alloc HB7.out _
        clear hW6
      rotate_left
      focus
        go_upto_region 23 with (fail)
        obtain ⟨W6, hW6⟩ : ∃ V, V = w7.alloc (.cells #[Value.string T.lang, Value.slice D_1 T.ext.length D_c1, Value.string T.script, Value.string T.region, Value.slice D_4 T.vars.length D_c4, Value.slice D_5 T.exts.length D_c5, Value.slice none 0 0, Value.string T.grand] 25) := ⟨_, rfl⟩
        rw [← hW6]
        have P : ∃ U E_1 E_c1 E_4 E_c4 E_5 E_c5 E_6 E_c6, Less T U ∧ W6.heap[w7.heap.size]? = some (.cells (tagCells U E_1 E_c1 E_4 E_c4 E_5 E_c5 E_6 E_c6) 25 (0, 0)) ∧ RowsC W6 U E_1 E_c1 E_4 E_c4 E_5 E_c5 E_6 E_c6 ∧ Below w.heap.size w W6 := by
          have r := (ownT_on RD7.out (below_alloc (Below.refl _ _) (.cells #[Value.string T.lang, Value.slice D_1 T.ext.length D_c1, Value.string T.script, Value.string T.region, Value.slice D_4 T.vars.length D_c4, Value.slice D_5 T.exts.length D_c5, Value.slice none 0 0, Value.string T.grand] 25))).rows
          rw [← hW6] at r
          refine ⟨{ T with priv := [] }, D_1, D_c1, D_4, D_c4, D_5, D_c5, none, 0, ⟨rfl, rfl, .inl rfl, .inl rfl, .inl rfl, .inl rfl, .inr rfl, rfl⟩, ?_, ⟨r.1, r.2.1, r.2.2.1, ⟨Kd.C_nil _ _, Nat.zero_le _⟩⟩, ?_⟩
          · rw [hW6]; exact new_blk w7 _
          · rw [hW6]; exact below_alloc HB7.out _
        clear hW6
      rotate_left
      focus
        go_upto_region 23 with (fail)
        obtain ⟨W6, hW6⟩ : ∃ V, V = w7.alloc (.cells #[Value.string T.lang, Value.slice D_1 T.ext.length D_c1, Value.string ⟨#[]⟩, Value.string T.region, Value.slice D_4 T.vars.length D_c4, Value.slice D_5 T.exts.length D_c5, Value.slice D_6 T.priv.length D_c6, Value.string T.grand] 25) := ⟨_, rfl⟩
        rw [← hW6]
        have P : ∃ U E_1 E_c1 E_4 E_c4 E_5 E_c5 E_6 E_c6, Less T U ∧ W6.heap[w7.heap.size]? = some (.cells (tagCells U E_1 E_c1 E_4 E_c4 E_5 E_c5 E_6 E_c6) 25 (0, 0)) ∧ RowsC W6 U E_1 E_c1 E_4 E_c4 E_5 E_c5 E_6 E_c6 ∧ Below w.heap.size w W6 := by
          have r := (ownT_on RD7.out (below_alloc (Below.refl _ _) (.cells #[Value.string T.lang, Value.slice D_1 T.ext.length D_c1, Value.string ⟨#[]⟩, Value.string T.region, Value.slice D_4 T.vars.length D_c4, Value.slice D_5 T.exts.length D_c5, Value.slice D_6 T.priv.length D_c6, Value.string T.grand] 25))).rows
          rw [← hW6] at r
          refine ⟨{ T with script := ⟨#[]⟩ }, D_1, D_c1, D_4, D_c4, D_5, D_c5, D_6, D_c6, ⟨rfl, rfl, .inr rfl, .inl rfl, .inl rfl, .inl rfl, .inl rfl, rfl⟩, ?_, r, ?_⟩
          · rw [hW6]; exact new_blk w7 _
          · rw [hW6]; exact below_alloc HB7.out _
        clear hW6
      rotate_left
      focus
        go_upto_region 23 with (fail)
        obtain ⟨W6, hW6⟩ : ∃ V, V = w7.alloc (.cells #[Value.string T.lang, Value.slice D_1 T.ext.length D_c1, Value.string T.script, Value.string ⟨#[]⟩, Value.slice D_4 T.vars.length D_c4, Value.slice D_5 T.exts.length D_c5, Value.slice D_6 T.priv.length D_c6, Value.string T.grand] 25) := ⟨_, rfl⟩
        rw [← hW6]
        have P : ∃ U E_1 E_c1 E_4 E_c4 E_5 E_c5 E_6 E_c6, Less T U ∧ W6.heap[w7.heap.size]? = some (.cells (tagCells U E_1 E_c1 E_4 E_c4 E_5 E_c5 E_6 E_c6) 25 (0, 0)) ∧ RowsC W6 U E_1 E_c1 E_4 E_c4 E_5 E_c5 E_6 E_c6 ∧ Below w.heap.size w W6 := by
          have r := (ownT_on RD7.out (below_alloc (Below.refl _ _) (.cells #[Value.string T.lang, Value.slice D_1 T.ext.length D_c1, Value.string T.script, Value.string ⟨#[]⟩, Value.slice D_4 T.vars.length D_c4, Value.slice D_5 T.exts.length D_c5, Value.slice D_6 T.priv.length D_c6, Value.string T.grand] 25))).rows
          rw [← hW6] at r
          refine ⟨{ T with region := ⟨#[]⟩ }, D_1, D_c1, D_4, D_c4, D_5, D_c5, D_6, D_c6, ⟨rfl, rfl, .inl rfl, .inr rfl, .inl rfl, .inl rfl, .inl rfl, rfl⟩, ?_, r, ?_⟩
          · rw [hW6]; exact new_blk w7 _
          · rw [hW6]; exact below_alloc HB7.out _
        clear hW6
      rotate_left
      all_goals
        clear HF HSB HLL HLS
        obtain ⟨U, E_1, E_c1, E_4, E_c4, E_5, E_c5, E_6, E_c6, hU, hblk, hrow, hbel⟩ := P
        have HU := Lib.hid hU
        have KU := Lib.hid hblk
        have RU := Lib.hid hrow
        have HBU := Lib.hid hbel
        have EQ := Lib.hid (fun (w' : World) (h : Below W6.heap.size W6 w') => (held8 KU.out h : Held8 U E_1 E_c1 E_4 E_c4 E_5 E_c5 E_6 E_c6 w7.heap.size w'))
        have Y0 := Lib.hid (Below.refl W6.heap.size W6)
        have b1 : (rightT U == rightT U) = true := beq_self_eq_true _
        clear hU hblk hrow hbel RD7 HB7
        refine start_ (n := 9) (S := fun w' => Held8 U E_1 E_c1 E_4 E_c4 E_5 E_c5 E_6 E_c6 w7.heap.size w') (ds := []) #[false, false, false, false, false, false, false, false, false] (by kernel_rfl) rfl rfl (EQ.out _ (below_drew Y0.out)) (fun hHeld => ?_); refine with_tabW tp23_tab tp23_bits (fun HT_ HW_ => ?_)
        refine pu_ (i := 0) (N := some 67) HT_ (bl_ 9 1) ?_
        refine pu_ (i := 1) (N := some 68) HT_ (bl_ 9 3) ?_
        refine tk_ (i := 2) (N := some 69) HT_ HW_ (bl_ 9 7) hHeld ?_ (hy := by rintro w' ⟨s0, s1, s2, s3, s4, s5, s6, s7⟩; go_simp; with_reducible rfl)
        refine tk_ (i := 4) (N := some 71) HT_ HW_ (bl_ 9 23) hHeld ?_ (hy := by rintro w' ⟨s0, s1, s2, s3, s4, s5, s6, s7⟩; go_simp; with_reducible rfl)
        refine on_ (i := 3) (N := some 70) HT_ (bl_ 9 31) rfl rfl (fun K hK => ?_)
        refine gs_ Tryz.func8 #[.agg (tagCells U E_1 E_c1 E_4 E_c4 E_5 E_c5 E_6 E_c6)] ?_
        refine (HPU.out _ HU.out _ _ _ _ _ _ _ _ _ (HN.out.on (below_step HBU.out (below_drew Y0.out))) (RU.out.below (below_drew Y0.out))).mono ?_
        rintro e v1 ⟨rfl, hb⟩
        have Y1 := Lib.hid (below_step (below_drew Y0.out) hb)
        clear hb
        refine ⟨_, rfl, ?_⟩
        refine hK.out _ _ (EQ.out _ Y1.out) (fun hHeld => ?_)
        clear hK K
        refine nm_ (some 70) ?_
        refine on_ (i := 5) (N := some 72) HT_ (bl_ 9 63) rfl rfl (fun K hK => ?_)
        refine gs_ Tryz.func9 #[.agg (tagCells U E_1 E_c1 E_4 E_c4 E_5 E_c5 E_6 E_c6)] ?_
        refine (HRU.out _ HU.out _ _ _ _ _ _ _ _ _ (RU.out.below Y1.out)).mono ?_
        rintro e v2 ⟨rfl, hb⟩
        have Y2 := Lib.hid (below_step Y1.out hb)
        clear hb
        refine ⟨_, rfl, ?_⟩
        refine hK.out _ _ (EQ.out _ Y2.out) (fun hHeld => ?_)
        clear hK K
        refine nm_ (some 72) ?_
        refine pu_ (i := 6) (N := some 73) HT_ (bl_ 9 127) ?_
        refine pu_ (i := 7) (N := some 74) HT_ (bl_ 9 255) ?_
        refine pu_ (i := 8) (N := some 4) HT_ (bl_ 9 511) ?_
        refine done_ (done_of HT_.out (by kernel_rfl)) ?_
        have HBE := Lib.hid (below_step HBU.out Y2.out)
        go_wp2
        go_ret
        exact ⟨rfl, HBE.out⟩
structure Slim (T : TG) : Prop where
  ext : T.ext.length ≤ 4
  vars : T.vars.length ≤ 6
  exts : T.exts.length ≤ 5
  priv : T.priv.length ≤ 4
  subs : ∀ x ∈ T.exts, x.f1.length ≤ 4
theorem Slim.len {T : TG} (h : Slim T) : (subL T.lang T.ext T.script T.region T.vars T.exts T.priv).length ≤ 100 := by
  have h1 := some1_le T.lang
  have h2 := some1_le T.script
  have h3 := some1_le T.region
  have h4 := flat5 T.exts h.subs
  have h5 := h.ext
  have h6 := h.vars
  have h7 := h.exts
  have h8 := h.priv
  unfold subL
  have hp : (if T.priv = [] then [] else (⟨#[120]⟩ : ByteArray) :: T.priv).length ≤ 5 := by
    split
    · simp
    · simp only [List.length_cons]; omega
  simp only [List.length_append] at hp ⊢
  omega
theorem Slim.text {T : TG} (h : Slim T) (t : TxtS T) : (textT T).length ≤ 1300 := by
  unfold textT subsT subsL
  split
  · refine Nat.le_trans (joinL_len 12 _ fun p hp => ?_) (by rw [List.length_map]; have := h.len; omega)
    obtain ⟨s, hs, rfl⟩ := List.mem_map.1 hp
    rw [bl_len]
    exact t.sub s hs
  · rw [map_bl_mk, join_split, bl_len]
    have := t.grand
    omega
theorem Small.slim {T : TG} (h : Small T) : Slim T := ⟨Nat.le_trans h.ext (by decide), h.vars, h.exts, h.priv, h.subs⟩
theorem subs_size {T : TG} (ht : TxtS T) : ∀ s ∈ subsT T, s.size ≤ 1000000 := fun s hs => by
  have hs2 : s ∈ subsL T.lang T.ext T.script T.region T.vars T.exts T.priv T.grand := hs
  unfold subsL at hs2
  split at hs2
  · have := ht.sub s hs2; omega
  · obtain ⟨q, hq, rfl⟩ := List.mem_map.1 hs2
    have h1 := sp_small (bl T.grand) [] q (by rw [← split_sp]; exact hq)
    rw [bl_len] at h1
    have := ht.grand
    rw [mk_size]
    simp only [List.length_nil] at h1
    omega
theorem fit_of {T : TG} (f : FewS T) (t : TxtS T) (m : Slim T) : Fit T :=
  ⟨Nat.le_trans m.len (by decide), f.grand, subs_size t, Nat.le_trans t.lang (by decide), Nat.le_trans t.script (by decide), Nat.le_trans t.region (by decide), fun s h => Nat.le_trans (t.ext s h) (by decide), fun s h => Nat.le_trans (t.vars s h) (by decide), fun s h => Nat.le_trans (t.priv s h) (by decide), fun x h => Nat.le_trans (t.keys x h) (by decide), fun x h s hs => Nat.le_trans (t.subs x h s hs) (by decide), Nat.le_trans (m.text t) (by decide), Nat.le_trans f.ext (by decide), Nat.le_trans f.vars (by decide), Nat.le_trans f.exts (by decide), Nat.le_trans f.priv (by decide), fun x h => Nat.le_trans (f.subs x h) (by decide)⟩
theorem refRight_calls {T : TG} (f : FewS T) (t : TxtS T) (m : Slim T) : ∀ W A1 c1 A4 c4 A5 c5 A6 c6, RowsC W T A1 c1 A4 c4 A5 c5 A6 c6 → Calls Tryz.prog 9 #[.agg (tagCells T A1 c1 A4 c4 A5 c5 A6 c6)] W fun e W' => e = .returned (.bool (rightT T)) ∧ Below W.heap.size W W' := by
  obtain ⟨k, hk⟩ := (right_ev T f t (Nat.le_trans (m.text t) (by decide)) (subs_size t)).rounds
  exact fun W A1 c1 A4 c4 A5 c5 A6 c6 h => r6_Right.calls k _ _ _ _ _ _ _ _ _ _ _ _ _ _ _ _ _ W h.1.1 h.1.2 h.2.1.1 h.2.1.2 h.2.2.1.1 h.2.2.1.2 h.2.2.2.1 h.2.2.2.2 hk
theorem awake06_ev : Ev (fun k => isoglosslaw06_awake.f k) true := by
  unfold isoglosslaw06_awake.f
  refine Ev.bind (tag_Variant_ev _ (by decide)) ?_
  rw [show Iso.isVar (bl ⟨#[49, 57, 57, 52]⟩) = true from by decide]
  refine Ev.bind (tag_Variant_ev _ (by decide)) ?_
  rw [show Iso.isVar (bl ⟨#[97, 114, 101, 118]⟩) = false from by decide]
  refine Ev.bind (tag_Region_ev _ (by decide)) ?_
  rw [show Iso.isReg (bl ⟨#[52, 49, 57]⟩) = true from by decide]
  exact Ev.now _
theorem right_subs {T : TG} (h : rightT T = true) (hl : T.lang ≠ ⟨#[]⟩) : ∀ s ∈ subsT T, isSub (bl s) = true := by
  unfold rightT at h
  rw [Bool.and_eq_true] at h
  obtain ⟨-, h⟩ := h
  by_cases hg : T.grand = ⟨#[]⟩
  · rw [if_pos hg, if_neg hl] at h
    obtain ⟨hS, hP, -⟩ := body_is h
    intro s hs
    rw [← okB_sub]
    rw [subsT_head hg hl] at hs
    rcases List.mem_append.1 hs with hs | hs
    · exact head_ok hS s hs
    · unfold privL' at hs
      split at hs
      · cases hs
      · rcases List.mem_cons.1 hs with rfl | hs
        · exact x_ok
        · exact hP s hs
  · rw [if_neg hg] at h
    unfold plainT at h
    simp only [Bool.and_eq_true, decide_eq_true_eq] at h
    exact absurd h.1.1.1 hl
theorem TagParts_calls (a0 a1 a2 a3 : Int) (A4 : Option Addr) (c4 : Nat) (l4 : List Int) (A5 : Option Addr) (c5 : Nat) (l5 : List Int) (A6 : Option Addr) (c6 : Nat) (l6 : List Int) (a7 : Int) (n : Int) (w : World) (h4 : IntsC w A4 c4 l4) (h5 : IntsC w A5 c5 l5) (h6 : IntsC w A6 c6 l6) (hN : NamesIn w) :
    Calls Tryz.prog 4 #[.agg #[.int .i64 a0, .int .i64 a1, .int .i64 a2, .int .i64 a3, .slice A4 l4.length c4, .slice A5 l5.length c5, .slice A6 l6.length c6, .int .i64 a7], .int .i64 n] w fun e w' => e = .returned (.bool true) ∧ Below w.heap.size w w' := by
  obtain ⟨B, hB, MD0⟩ := made_calls a0 a1 a2 a3 l4 l5 l6 a7
  have uf : FewS (spoiltT B (oddN a7)) := hB.fewS (oddN a7)
  have ut : TxtS (spoiltT B (oddN a7)) := baseT_txtS hB (oddN a7)
  have us : Small (spoiltT B (oddN a7)) := base_small hB (oddN a7)
  generalize spoiltT B (oddN a7) = T at MD0 uf ut us
  obtain ⟨ka, hka⟩ := awake06_ev.rounds
  have AW : ∀ W, Calls Tryz.prog 5 #[] W fun e W' => e = .returned (.bool true) ∧ Below W.heap.size W W' := fun W => (isoglosslaw06_awake.calls ka true W hka).mono fun e W' ⟨he, hd⟩ => ⟨he, hd.below⟩
  have MD : ∀ W, IntsC W A4 c4 l4 → IntsC W A5 c5 l5 → IntsC W A6 c6 l6 → Calls Tryz.prog 7 #[.agg #[.int .i64 a0, .int .i64 a1, .int .i64 a2, .int .i64 a3, .slice A4 l4.length c4, .slice A5 l5.length c5, .slice A6 l6.length c6, .int .i64 a7]] W fun e W' => ∃ A1 c1 A4 c4 A5 c5 A6 c6, e = .returned (.agg (tagCells T A1 c1 A4 c4 A5 c5 A6 c6)) ∧ RowsC W' T A1 c1 A4 c4 A5 c5 A6 c6 ∧ Below W.heap.size W W' := fun W i4 i5 i6 => MD0 A4 c4 A5 c5 A6 c6 W i4 i5 i6
  have PT : ∀ W A1 c1 A4 c4 A5 c5 A6 c6, NamesIn W → RowsC W T A1 c1 A4 c4 A5 c5 A6 c6 → Calls Tryz.prog 8 #[.agg (tagCells T A1 c1 A4 c4 A5 c5 A6 c6)] W fun e W' => e = .returned (.bool (rightT T)) ∧ Below W.heap.size W W' := fun W A1 c1 A4 c4 A5 c5 A6 c6 hN h => Right_calls T A1 c1 A4 c4 A5 c5 A6 c6 W h (fit_of uf ut us.slim) hN
  have RT : ∀ W A1 c1 A4 c4 A5 c5 A6 c6, RowsC W T A1 c1 A4 c4 A5 c5 A6 c6 → Calls Tryz.prog 9 #[.agg (tagCells T A1 c1 A4 c4 A5 c5 A6 c6)] W fun e W' => e = .returned (.bool (rightT T)) ∧ Below W.heap.size W W' := refRight_calls uf ut us.slim
  cases hr : rightT T with
  | false =>
    rw [hr] at PT RT
    by_cases hl : T.lang = ⟨#[]⟩
    · exact parts_noa a0 a1 a2 a3 A4 c4 l4 A5 c5 l5 A6 c6 l6 a7 n w h4 h5 h6 hN T hl AW MD PT RT
    · exact parts_nob a0 a1 a2 a3 A4 c4 l4 A5 c5 l5 A6 c6 l6 a7 n w h4 h5 h6 hN T hl AW MD PT RT
  | true =>
    rw [hr] at PT RT
    by_cases hl : T.lang = ⟨#[]⟩
    · exact parts_noc a0 a1 a2 a3 A4 c4 l4 A5 c5 l5 A6 c6 l6 a7 n w h4 h5 h6 hN T hl AW MD PT RT
    · refine parts_yes a0 a1 a2 a3 A4 c4 l4 A5 c5 l5 A6 c6 l6 a7 n w h4 h5 h6 hN T hl (fit_of uf ut us.slim) (right_subs hr hl) AW MD PT RT ?_ ?_
      · exact fun U hU W A1 c1 A4 c4 A5 c5 A6 c6 hN h => Right_calls U A1 c1 A4 c4 A5 c5 A6 c6 W h (fit_of (hU.few uf) (hU.txt ut) (hU.small us).slim) hN
      · exact fun U hU => refRight_calls (hU.few uf) (hU.txt ut) (hU.small us).slim
def isoglosslaw06_TagParts.f (k : Nat) (a0 a1 a2 a3 : Int) (l4 l5 l6 : List Int) (a7 n : Int) : Option Bool := some true
theorem isoglosslaw06_TagParts.calls (k : Nat) (a0 a1 a2 a3 : Int) (A4 : Option Addr) (c4 : Nat) (l4 : List Int) (A5 : Option Addr) (c5 : Nat) (l5 : List Int) (A6 : Option Addr) (c6 : Nat) (l6 : List Int) (a7 : Int) (n : Int) (r : Bool) (w : World) (h4 : Kd.C (Kd.int .i64) w A4 l4.length l4) (g4 : l4.length ≤ c4) (h5 : Kd.C (Kd.int .i64) w A5 l5.length l5) (g5 : l5.length ≤ c5) (h6 : Kd.C (Kd.int .i64) w A6 l6.length l6) (g6 : l6.length ≤ c6) (hN : NamesIn w) (h : isoglosslaw06_TagParts.f k a0 a1 a2 a3 l4 l5 l6 a7 n = some r) :
    Calls Tryz.prog 4 #[.agg #[.int .i64 a0, .int .i64 a1, .int .i64 a2, .int .i64 a3, .slice A4 l4.length c4, .slice A5 l5.length c5, .slice A6 l6.length c6, .int .i64 a7], .int .i64 n] w fun e w' => e = .returned (.bool r) ∧ Below w.heap.size w w' := by
  obtain rfl := Option.some.inj h
  exact TagParts_calls a0 a1 a2 a3 A4 c4 l4 A5 c5 l5 A6 c6 l6 a7 n w ⟨h4, g4⟩ ⟨h5, g5⟩ ⟨h6, g6⟩ hN
end Go.Proofs.YtljadeeoaoiilaaGreatDoor.P
