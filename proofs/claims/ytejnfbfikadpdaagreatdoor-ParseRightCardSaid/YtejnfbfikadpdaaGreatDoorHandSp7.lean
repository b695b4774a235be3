/- The law's functions rest and spoilt, walked: a place within; a text of one byte more at most. -/
import Derived.Test.YtejnfbfikadpdaaGreatDoorHandUse
import Derived.Test.YtejnfbfikadpdaaGreatDoorSq
import Derived.Test.YtejnfbfikadpdaaGreatDoorPureBase
import Derived.Test.YtejnfbfikadpdaaGreatDoorPx10
import Derived.Test.YtejnfbfikadpdaaGreatDoorPx8
import Derived.Test.YtejnfbfikadpdaaGreatDoorPx6
import Derived.Test.YtejnfbfikadpdaaGreatDoorEvTxt
import Derived.Test.YtejnfbfikadpdaaGreatDoorHandFind
import Derived.Test.YtejnfbfikadpdaaGreatDoorPx0
import Derived.Test.YtejnfbfikadpdaaGreatDoorPx9
namespace Go.Proofs.YtejnfbfikadpdaaGreatDoor.P
open Go.RowKit Go.Shelf Go.Proofs.YtejnfbfikadpdaaGreatDoorW.PrintWords Go.Proofs.YtejnfbfikadpdaaGreatDoorW.PrintLast Go.Proofs.YtejnfbfikadpdaaGreatDoorW.PrintMore Go.Proofs.YtejnfbfikadpdaaGreatDoor.Iso
set_option linter.unusedVariables false
set_option linter.unusedSimpArgs false
attribute [local go_sem] Oper.semAt_some
theorem wake1 : parseR ⟨#[122, 104, 45, 72, 97, 110, 116, 45, 84, 87, 45, 120, 45, 97]⟩ = .good { T0 with lang := ⟨#[122, 104]⟩, script := ⟨#[104, 97, 110, 116]⟩, region := ⟨#[116, 119]⟩, priv := [⟨#[97]⟩] } := by kernel_rfl
theorem wake2 : parseR ⟨#[100, 101, 45, 49, 57, 48, 49, 45, 49, 57, 48, 49]⟩ = .bad 11 8 ⟨#[118, 97, 114, 105, 97, 110, 116]⟩ := by kernel_rfl
structure Given (W : World) : Prop where
  names : NamesIn W
  err : W.cell? ⟨1, 0, none⟩ = some errV
theorem Given.below {W W' : World} (h : Given W) (hb : Below W.heap.size W W') : Given W' := ⟨h.names.on hb, pw_cell_below hb h.err⟩
set_option maxRecDepth 100000 in
set_option maxHeartbeats 4000000 in
theorem awake_calls (w : World) (hG : Given w) : Calls Tryz.prog 10 #[] w fun e w' => e = .returned (.bool true) ∧ Below w.heap.size w w' := by
  have HG := Lib.hid hG
  obtain ⟨T, hT⟩ : ∃ T : TG, T = { T0 with lang := ⟨#[122, 104]⟩, script := ⟨#[104, 97, 110, 116]⟩, region := ⟨#[116, 119]⟩, priv := [⟨#[97]⟩] } := ⟨_, rfl⟩
  have P1 := Lib.hid (fun W (h : NamesIn W) => Parse_good (wake1.trans (by rw [← hT])) (by decide) W h)
  have P2 := Lib.hid (fun W (h : NamesIn W) => Parse_bad wake2 (by decide) W h)
  have t0 : T.lang = ⟨#[122, 104]⟩ := by rw [hT]
  have t2 : T.script = ⟨#[104, 97, 110, 116]⟩ := by rw [hT]
  have t3 : T.region = ⟨#[116, 119]⟩ := by rw [hT]
  have t6 : T.priv.length = 1 := by rw [hT]; rfl
  clear hG hT
  go_enter Tryz.func10, Tryz.ntmps10
  go_wp2_with (first
    | (go_at_call 13; refine (P1.out _ HG.out.names).mono ?_; rintro e w1 ⟨A1, c1, A4, c4, A5, c5, A6, c6, rfl, hr, hb⟩; have HB1 := Lib.hid hb; clear hb hr P1)
    | (go_at_call 13; refine (P2.out _ ((HG.out.below HB1.out).below (below_alloc (Below.refl _ _) _)).names).mono ?_; rintro e w2 ⟨B1, d1, B4, d4, B5, d5, B6, d6, B, rfl, hF, hr, hb⟩; obtain ⟨ob, hob⟩ : ∃ ob : Obj, ob = .cells #[.string ⟨#[]⟩, .slice B1 0 d1, .string ⟨#[]⟩, .string ⟨#[]⟩, .slice B4 0 d4, .slice B5 0 d5, .slice B6 0 d6, .string ⟨#[]⟩] 29 := ⟨_, rfl⟩; have HF2 := Lib.hid (hF.below (below_alloc (Below.refl _ _) ob)); have HB2 := Lib.hid (below_step (below_step HB1.out (below_alloc (Below.refl _ _) _)) hb); have tb := blk_on (new_blk w1 _) hb; obtain ⟨g0, g1, g2, g3, g4, g5, g6, g7⟩ := cells8o tb ob; have HB3 := Lib.hid (below_alloc HB2.out ob); subst hob; clear hF hb hr P2 tb g1 g4 g5 g7)
    | (go_at_call 25; refine (kind_calls (r := .bad 11 8 ⟨#[118, 97, 114, 105, 97, 110, 116]⟩) (HG.out.below HB3.out).err ⟨B, rfl, HF2.out⟩).mono ?_; rintro e w4 ⟨he, hb⟩; obtain rfl : e = .returned (.int .i64 11) := he; have HF4 := Lib.hid (HF2.out.below hb); have HB4 := Lib.hid (below_step HB3.out hb); clear hb)
    | (go_at_call 26; refine (place_calls (r := .bad 11 8 ⟨#[118, 97, 114, 105, 97, 110, 116]⟩) ⟨B, rfl, HF4.out⟩).mono ?_; rintro e w5 ⟨he, hb⟩; obtain rfl : e = .returned (.int .i64 8) := he; have HB5 := Lib.hid (below_step HB4.out hb); clear hb))
  go_ret
  exact ⟨rfl, HB5.out⟩
end Go.Proofs.YtejnfbfikadpdaaGreatDoor.P
namespace Go.Proofs.YtejnfbfikadpdaaGreatDoor.P
open Go.RowKit Go.Shelf Go.Proofs.YtejnfbfikadpdaaGreatDoorW.PrintWords Go.Proofs.YtejnfbfikadpdaaGreatDoorW.PrintLast Go.Proofs.YtejnfbfikadpdaaGreatDoorW.PrintMore Go.Proofs.YtejnfbfikadpdaaGreatDoor.Iso
set_option linter.unusedVariables false
set_option linter.unusedSimpArgs false
theorem blk_alloc1 {w : World} {g : Nat} {o : Obj} (h : w.heap[g]? = some o) (q : Obj) : (w.alloc q).heap[g]? = some o := blk_on h (below_alloc (Below.refl _ _) _)
theorem cells8p {w : World} {g : Nat} {t : TypeId} {x0 x1 x2 x3 x4 x5 x6 x7 : Value} (h : w.heap[g]? = some (.cells #[x0, x1, x2, x3, x4, x5, x6, x7] t (0, 0))) : w.cell? ⟨g, 0, none⟩ = some x0 ∧ w.cell? ⟨g, 1, none⟩ = some x1 ∧ w.cell? ⟨g, 2, none⟩ = some x2 ∧ w.cell? ⟨g, 3, none⟩ = some x3 ∧ w.cell? ⟨g, 4, none⟩ = some x4 ∧ w.cell? ⟨g, 5, none⟩ = some x5 ∧ w.cell? ⟨g, 6, none⟩ = some x6 ∧ w.cell? ⟨g, 7, none⟩ = some x7 :=
  (C8_ h)
theorem sameL_refl : ∀ xs : List S47, sameL xs xs = true
  | [] => rfl
  | x :: xs => by unfold sameL sameX; rw [sameL_refl xs, decide_eq_true rfl, decide_eq_true rfl]; rfl
theorem sameT_refl (T : TG) : sameT T T = true := by
  unfold sameT; rw [sameL_refl]; simp
def shortB (s : ByteArray) : ByteArray := if s.size > 80 then s.extract 0 80 else s
theorem shortB_size (s : ByteArray) : (shortB s).size ≤ 80 := by
  unfold shortB
  split
  · rw [ByteArray.size_extract]; omega
  · omega
theorem short_calls (s : ByteArray) (W : World) : Calls Tryz.prog 18 #[.string s] W fun e W' => e = .returned (.string (shortB s)) ∧ Below W.heap.size W W' := by
  refine (w7_short.calls s (shortB s) W ?_).mono fun e W' ⟨he, hd⟩ => ⟨he, hd.below⟩
  unfold w7_short.f shortB
  by_cases c : s.size > 80
  · rw [if_pos (by omega), if_pos (by decide), if_pos (by omega), if_pos c]
  · rw [if_neg (by omega), if_neg c]
theorem lower02_calls (s : ByteArray) (hs : s.size ≤ 140737488355328) (W : World) : Calls Tryz.prog 24 #[.string s] W fun e W' => e = .returned (.string (mk (low (bl s)))) ∧ Below W.heap.size W W' := by
  obtain ⟨k, hk⟩ := (ref_Lower_ev s hs).rounds
  exact r2_Lower.calls k s _ W hk
abbrev IntsC (W : World) (A : Option Addr) (c : Nat) (l : List Int) : Prop := Kd.C (Kd.int .i64) W A l.length l ∧ l.length ≤ c
theorem IntsC.below {W W' : World} {A : Option Addr} {c : Nat} {l : List Int} (h : IntsC W A c l) (hb : Below W.heap.size W W') : IntsC W' A c l := ⟨Kd.C_below h.1 hb, h.2⟩
theorem made_calls (a0 a1 a2 a3 : Int) (l4 l5 l6 : List Int) (a7 : Int) : ∃ B : TG, BaseT B l6 ∧ ∀ (A4 : Option Addr) (c4 : Nat) (A5 : Option Addr) (c5 : Nat) (A6 : Option Addr) (c6 : Nat) (W : World), IntsC W A4 c4 l4 → IntsC W A5 c5 l5 → IntsC W A6 c6 l6 →
    Calls Tryz.prog 11 #[.agg #[.int .i64 a0, .int .i64 a1, .int .i64 a2, .int .i64 a3, .slice A4 l4.length c4, .slice A5 l5.length c5, .slice A6 l6.length c6, .int .i64 a7]] W fun e W' => ∃ A1 c1 A4 c4 A5 c5 A6 c6, e = .returned (.agg (tagCells (spoiltT B (oddN a7)) A1 c1 A4 c4 A5 c5 A6 c6)) ∧ RowsC W' (spoiltT B (oddN a7)) A1 c1 A4 c4 A5 c5 A6 c6 ∧ Below W.heap.size W W' := by
  obtain ⟨r, hr, B, hB, e⟩ := Made_told a0 a1 a2 a3 l4 l5 l6 a7
  subst e
  obtain ⟨k, hk⟩ := hr.rounds
  exact ⟨B, hB, fun A4 c4 A5 c5 A6 c6 W h4 h5 h6 => Made_tag k a0 a1 a2 a3 A4 c4 l4 A5 c5 l5 A6 c6 l6 a7 _ W h4 h5 h6 hk⟩
end Go.Proofs.YtejnfbfikadpdaaGreatDoor.P
namespace Go.Proofs.YtejnfbfikadpdaaGreatDoor.Iso
open Go Go.RowKit Go.Proofs.YtejnfbfikadpdaaGreatDoorW.PrintWords Go.Proofs.YtejnfbfikadpdaaGreatDoor.P
set_option linter.unusedVariables false
set_option linter.unusedSimpArgs false
theorem toL (a b : ByteArray) : (a.toList = b.toList) ↔ bl a = bl b := by
  rw [Go.ByteArray.toList_eq, Go.ByteArray.toList_eq]; exact Iff.rfl
theorem toL_nil (a : ByteArray) : (a.toList = ([] : List UInt8)) ↔ a = ⟨#[]⟩ := by
  rw [Go.ByteArray.toList_eq]
  constructor
  · intro h; exact bl_inj (show bl a = bl ⟨#[]⟩ from h)
  · intro h; rw [h]
def lowOk (s : ByteArray) : Bool := decide (bl s = low (bl s))
def subOk (m : Nat) (s : ByteArray) : Bool := isSub (bl s) && decide (m ≤ s.size)
section
variable (T : TG)
def smallT : Bool := ((subsT T) ++ [T.lang, T.script, T.region]).all lowOk && lowOk T.grand
def varsB (pre : List ByteArray) : List ByteArray → Bool
  | [] => true
  | v :: t => isVar (bl v) && pre.all (fun u => decide (bl u ≠ bl v)) && varsB (pre ++ [v]) t
def keysB (pre : List S47) : List S47 → Bool
  | [] => true
  | x :: t => isSing (bl x.f0) && pre.all (fun u => decide (bl u.f0 ≠ bl x.f0)) && (x.f1.all (subOk 2) && !x.f1.isEmpty) && keysB (pre ++ [x]) t
def rowsT : Bool := varsB [] T.vars && (keysB [] T.exts && T.priv.all (subOk 1))
end
def isName (s : Str) : Bool := nameL.contains (low s)
section
variable (T : TG)
abbrev extAll : Bool := T.ext.all (fun s => isExtl (bl s))
def extFit : Bool := decide (T.ext.length ≤ 3) && (T.ext.isEmpty || decide (T.lang.size ≤ 3))
abbrev scrOk : Bool := decide (T.script = ⟨#[]⟩) || isScr (bl T.script)
abbrev regOk : Bool := decide (T.region = ⟨#[]⟩) || isReg (bl T.region)
def bodyT : Bool := isLang (bl T.lang) && scrOk T && regOk T && rowsT T && extFit T && (extAll T && !isName (textT T))
def plainT : Bool := decide (T.lang = ⟨#[]⟩) && (T.ext.isEmpty && (decide (T.script = ⟨#[]⟩) && (decide (T.region = ⟨#[]⟩) && (T.vars.isEmpty && T.exts.isEmpty))))
def rightT : Bool := smallT T && (if T.grand = ⟨#[]⟩ then (if T.lang = ⟨#[]⟩ then plainT T && !T.priv.isEmpty && T.priv.all (subOk 1) else bodyT T) else plainT T && T.priv.isEmpty && isName (bl T.grand))
theorem len_zero {α : Type} (l : List α) : ((l.length : Int) = 0) ↔ l.isEmpty = true := by
  rw [List.isEmpty_iff]
  constructor
  · intro h; exact List.eq_nil_of_length_eq_zero (by omega)
  · intro h; rw [h]; rfl
end
end Go.Proofs.YtejnfbfikadpdaaGreatDoor.Iso
namespace Go.Proofs.YtejnfbfikadpdaaGreatDoor.P
open Go.RowKit Go.Shelf Go.Proofs.YtejnfbfikadpdaaGreatDoorW.PrintWords Go.Proofs.YtejnfbfikadpdaaGreatDoorW.PrintLast Go.Proofs.YtejnfbfikadpdaaGreatDoorW.PrintMore Go.Proofs.YtejnfbfikadpdaaGreatDoor.Iso
set_option linter.unusedVariables false
set_option linter.unusedSimpArgs false
attribute [local go_sem] Oper.semAt_some
theorem rest_calls (x n : Int) (h0 : 0 < n) (h1 : n ≤ 1000000) : ∃ r : Int, 0 ≤ r ∧ r < n ∧ ∀ W, Calls Tryz.prog 20 #[.int .i64 x, .int .i64 n] W fun e W' => e = .returned (.int .i64 r) ∧ Below W.heap.size W W' := by
  have t1 : Int.tmod x n < n := Int.tmod_lt_of_pos x h0
  have t2 : -n < Int.tmod x n := by
    have h := Int.tmod_lt_of_pos (-x) h0
    rw [Int.neg_tmod] at h; omega
  have hw : wrap64 (Int.tmod x n + n) = Int.tmod x n + n := by unfold wrap64; omega
  refine ⟨Int.tmod (wrap64 (Int.tmod x n + n)) n, ?_, Int.tmod_lt_of_pos _ h0, fun W => ?_⟩
  · rw [hw]; exact Int.tmod_nonneg _ (by omega)
  · refine (w7_rest.calls x n _ W ?_).mono fun e W' ⟨he, hd⟩ => ⟨he, hd.below⟩
    unfold w7_rest.f
    rw [if_neg (by omega)]
theorem byte_string (W : World) (z : Int) : (convert 79 9 (.slice (some ⟨W.heap.size, 0, none⟩) 1 1)).run Tryz.prog (W.alloc (.cells #[.int .u8 z] 5)) = .ok (.string (strOfNums [z])) (W.alloc (.cells #[.int .u8 z] 5)) :=
  run_convert_bytes_arg _ 79 5 Tryz.underlying79 Tryz.underlying5 W.heap.size 0 1 1 [z] rfl (fun i hi => by
    obtain rfl : i = 0 := by omega
    exact (blk_cell (new_blk W (.cells #[.int .u8 z] 5)) 0).trans rfl) 9 Tryz.underlying9
def ls7_T : Bool × List (List Nat × List Nat) := (true, [([], []), ([], []), ([0, 1], [0, 1]), ([], []), ([2, 3], [2, 3]), ([], []), ([], []), ([6], [6]), ([5, 7], [5, 7]), ([4, 8], [4, 8]), ([9, 0, 1, 2, 3, 4, 5, 6, 7, 8, 9], [9])])
def ls7_B : List Nat := [0, 0, 3, 0, 15, 0, 0, 64, 224, 511, 1023]
theorem ls7_tab : rtab .any (opsOf Tryz.f19 7) = ls7_T := by kernel_rfl
theorem ls7_bits : waitsOk ls7_T.2 ls7_B = true := by kernel_rfl
def ls9_T : Bool × List (List Nat × List Nat) := (true, [([], []), ([], []), ([0, 1], [0, 1]), ([], []), ([], []), ([4], [4]), ([3, 5], [3, 5]), ([2, 6], [2, 6]), ([7, 0, 1, 2, 3, 4, 5, 6, 7], [7])])
def ls9_B : List Nat := [0, 0, 3, 0, 0, 16, 56, 127, 255]
theorem ls9_tab : rtab .any (opsOf Tryz.f19 9) = ls9_T := by kernel_rfl
theorem ls9_bits : waitsOk ls9_T.2 ls9_B = true := by kernel_rfl
def ls10_T : Bool × List (List Nat × List Nat) := (true, [([], []), ([], []), ([0, 1], [0, 1]), ([], []), ([2, 3], [2, 3]), ([], []), ([], []), ([5, 6], [5, 6]), ([4, 7], [4, 7]), ([8, 0, 1, 2, 3, 4, 5, 6, 7, 8], [8])])
def ls10_B : List Nat := [0, 0, 3, 0, 15, 0, 0, 96, 255, 511]
theorem ls10_tab : rtab .any (opsOf Tryz.f19 10) = ls10_T := by kernel_rfl
theorem ls10_bits : waitsOk ls10_T.2 ls10_B = true := by kernel_rfl
set_option maxRecDepth 100000 in
set_option maxHeartbeats 4000000 in
theorem lspoilt_calls (s : ByteArray) (hs : s.size ≤ 100000) (q0 q1 q2 : Int) (w : World) :
    Calls Tryz.prog 19 #[.string s, .agg #[.int .i64 q0, .int .i64 q1, .int .i64 q2]] w fun e w' => ∃ t : ByteArray, e = .returned (.string t) ∧ t.size ≤ s.size + 1 ∧ Below w.heap.size w w' := by
  have HB1 := Lib.hid (below_alloc (Below.refl w.heap.size w) (.cells #[.int .i64 q0, .int .i64 q1, .int .i64 q2] 43))
  have K1 := Lib.hid (new_blk w (.cells #[.int .i64 q0, .int .i64 q1, .int .i64 q2] 43))
  have HS := Lib.hid hs
  obtain ⟨c, hc⟩ : ∃ c, c = strOfNums [q2 % 256] := ⟨_, rfl⟩
  have sc : c.size = 1 := by rw [hc]; rfl
  by_cases h0 : s = ⟨#[]⟩
  · subst h0
    have f2 := (blk_cell K1.out 2).trans rfl
    have hcv := byte_string (w.alloc (.cells #[.int .i64 q0, .int .i64 q1, .int .i64 q2] 43)) (q2 % 256)
    rw [show (w.alloc (.cells #[.int .i64 q0, .int .i64 q1, .int .i64 q2] 43)).heap.size = w.heap.size + 1 from by simp, ← hc] at hcv
    have SC := Lib.hid sc
    clear hc sc
    go_enter Tryz.func19, Tryz.ntmps19
    go_wp2
    go_ret
    exact ⟨c, rfl, by rw [SC.out]; exact Nat.le_add_left _ _, below_alloc HB1.out _⟩
  · have e0 : s.toList.isEmpty = false := by
      rw [List.isEmpty_eq_false_iff]
      exact fun e => h0 ((toL_nil s).1 e)
    have e1 : (s.toList == ([] : List UInt8)) = false := beq_eq_false_iff_ne.mpr (fun e => h0 ((toL_nil s).1 e))
    have hn : 0 < s.size := by
      rcases Nat.eq_zero_or_pos s.size with h | h
      · exact absurd (bl_inj (List.eq_nil_of_length_eq_zero (by rw [bl_len]; exact h) : bl s = bl ⟨#[]⟩)) h0
      · exact h
    obtain ⟨r, r0, r1, RC⟩ := rest_calls q1 (s.size : Int) (by omega) (by omega)
    obtain ⟨m, rfl⟩ : ∃ m : Nat, r = (m : Int) := ⟨r.toNat, by omega⟩
    obtain ⟨h, g0, g1, HC⟩ := rest_calls q0 3 (by omega) (by omega)
    have RC_ := Lib.hid RC
    have HC_ := Lib.hid HC
    have RM := Lib.hid (show m < s.size by omega)
    have w1 : wrap64 ((m : Int) + 1) = (m : Int) + 1 := by unfold wrap64; omega
    have z1 : (m : Int) ≤ (s.size : Int) := by omega
    have z2 : (m : Int) + 1 ≤ (s.size : Int) := by omega
    have z5 : (0 : Int) ≤ (m : Int) + 1 := by omega
    have z3 : m ≤ s.size := by omega
    have z4 : m + 1 ≤ s.size := by omega
    have SC := Lib.hid sc
    have HCc := Lib.hid hc
    have f1 := (blk_cell K1.out 1).trans rfl
    have hh : h = 0 ∨ h = 1 ∨ h = 2 := by omega
    clear RC HC r0 r1 g0 g1 hn h0 hc hs
    go_enter Tryz.func19, Tryz.ntmps19
    go_upto_region 6 with (first
      | (go_at_call 20; refine (RC_.out _).mono ?_; rintro e w2 ⟨rfl, hb⟩; have HB2 := Lib.hid (below_step HB1.out hb); have K2 := blk_on K1.out hb; have K3 := Lib.hid (blk_alloc1 K2 (.cells #[.int .u8 (q2 % 256)] 5)); have f2 := (blk_cell K2 2).trans rfl; have f0 := (blk_cell K3.out 0).trans rfl; have hcv := byte_string w2 (q2 % 256); rw [← HCc.out] at hcv; clear K2 hb K1 HB1 f1 RC_)
      | (go_at_call 20; refine (HC_.out _).mono ?_; rintro e w3 ⟨rfl, hb⟩; have HB3 := Lib.hid (below_step (below_alloc HB2.out _) hb); clear hb HB2 f0 f2 hcv K3 HC_))
    rcases hh with rfl | rfl | rfl
    · have HSo := HS.out
      have y3 : ¬ (9223372036854775807 < s.size) := by omega
      have y4 : ¬ (9223372036854775807 < s.size + 1) := by omega
      have y1 : ¬ (9223372036854775807 < m + 1) := by omega
      have y2 : ¬ (9223372036854775807 < m + 1 + (s.size - (m + 1))) := by omega
      go_wp2
      refine start_ (n := 11) (S := fun _ => True) (ds := []) #[false, false, false, false, false, false, false, false, false, false, false] (by kernel_rfl) rfl rfl trivial (fun hHeld => ?_); refine with_tabW ls7_tab ls7_bits (fun HT_ HW_ => ?_)
      refine pu_ (i := 0) (N := some 29) HT_ (bl_ 11 1) ?_
      refine pu_ (i := 1) (N := some 30) HT_ (bl_ 11 3) ?_
      refine pu_ (i := 2) (N := some 31) HT_ (bl_ 11 7) ?_
      refine pu_ (i := 3) (N := some 32) HT_ (bl_ 11 15) ?_
      refine pu_ (i := 4) (N := some 33) HT_ (bl_ 11 31) ?_
      refine pu_ (i := 5) (N := some 34) HT_ (bl_ 11 63) ?_
      refine pu_ (i := 6) (N := some 35) HT_ (bl_ 11 127) ?_
      refine pu_ (i := 7) (N := some 36) HT_ (bl_ 11 255) ?_
      refine pu_ (i := 8) (N := some 37) HT_ (bl_ 11 511) ?_
      refine pu_ (i := 9) (N := some 38) HT_ (bl_ 11 1023) ?_
      refine pu_ (i := 10) (N := some 4) HT_ (bl_ 11 2047) ?_
      refine done_ (done_of HT_.out (by kernel_rfl)) ?_
      go_wp2
      go_ret
      exact ⟨_, rfl, by have := RM.out; have := SC.out; simp only [ByteArray.size_append, ByteArray.size_extract]; omega, below_drew HB3.out⟩
    · have HSo := HS.out
      have y3 : ¬ (9223372036854775807 < s.size) := by omega
      have y4 : ¬ (9223372036854775807 < s.size + 1) := by omega
      have y1 : ¬ (9223372036854775807 < m + (s.size - (m + 1))) := by omega
      go_wp2
      refine start_ (n := 9) (S := fun _ => True) (ds := []) #[false, false, false, false, false, false, false, false, false] (by kernel_rfl) rfl rfl trivial (fun hHeld => ?_); refine with_tabW ls9_tab ls9_bits (fun HT_ HW_ => ?_)
      refine pu_ (i := 0) (N := some 41) HT_ (bl_ 9 1) ?_
      refine pu_ (i := 1) (N := some 42) HT_ (bl_ 9 3) ?_
      refine pu_ (i := 2) (N := some 43) HT_ (bl_ 9 7) ?_
      refine pu_ (i := 3) (N := some 44) HT_ (bl_ 9 15) ?_
      refine pu_ (i := 4) (N := some 45) HT_ (bl_ 9 31) ?_
      refine pu_ (i := 5) (N := some 46) HT_ (bl_ 9 63) ?_
      refine pu_ (i := 6) (N := some 47) HT_ (bl_ 9 127) ?_
      refine pu_ (i := 7) (N := some 48) HT_ (bl_ 9 255) ?_
      refine pu_ (i := 8) (N := some 4) HT_ (bl_ 9 511) ?_
      refine done_ (done_of HT_.out (by kernel_rfl)) ?_
      go_wp2
      go_ret
      exact ⟨_, rfl, by have := RM.out; have := SC.out; simp only [ByteArray.size_append, ByteArray.size_extract]; omega, below_drew HB3.out⟩
    · have HSo := HS.out
      have y3 : ¬ (9223372036854775807 < s.size) := by omega
      have y4 : ¬ (9223372036854775807 < s.size + 1) := by omega
      have y1 : ¬ (9223372036854775807 < m + 1) := by omega
      have y2 : ¬ (9223372036854775807 < m + 1 + (s.size - m)) := by omega
      go_wp2
      refine start_ (n := 10) (S := fun _ => True) (ds := []) #[false, false, false, false, false, false, false, false, false, false] (by kernel_rfl) rfl rfl trivial (fun hHeld => ?_); refine with_tabW ls10_tab ls10_bits (fun HT_ HW_ => ?_)
      refine pu_ (i := 0) (N := some 49) HT_ (bl_ 10 1) ?_
      refine pu_ (i := 1) (N := some 50) HT_ (bl_ 10 3) ?_
      refine pu_ (i := 2) (N := some 51) HT_ (bl_ 10 7) ?_
      refine pu_ (i := 3) (N := some 52) HT_ (bl_ 10 15) ?_
      refine pu_ (i := 4) (N := some 53) HT_ (bl_ 10 31) ?_
      refine pu_ (i := 5) (N := some 54) HT_ (bl_ 10 63) ?_
      refine pu_ (i := 6) (N := some 55) HT_ (bl_ 10 127) ?_
      refine pu_ (i := 7) (N := some 56) HT_ (bl_ 10 255) ?_
      refine pu_ (i := 8) (N := some 57) HT_ (bl_ 10 511) ?_
      refine pu_ (i := 9) (N := some 4) HT_ (bl_ 10 1023) ?_
      refine done_ (done_of HT_.out (by kernel_rfl)) ?_
      go_wp2
      go_ret
      exact ⟨_, rfl, by have := RM.out; have := SC.out; simp only [ByteArray.size_append, ByteArray.size_extract]; omega, below_drew HB3.out⟩
end Go.Proofs.YtejnfbfikadpdaaGreatDoor.P
