/- What this chapter's laws call, each with its plain answer. -/
import Derived.Test.YtejnfbfikadpdaaGreatDoorHandUse
import Derived.Test.YtejnfbfikadpdaaGreatDoorSq
import Derived.Test.YtejnfbfikadpdaaGreatDoorPureBase
import Derived.Test.YtejnfbfikadpdaaGreatDoorPx10
import Derived.Test.YtejnfbfikadpdaaGreatDoorPx8
import Derived.Test.YtejnfbfikadpdaaGreatDoorPx6
namespace Go.Proofs.YtejnfbfikadpdaaGreatDoor.P
open Go.RowKit Go.Shelf Go.Proofs.YtejnfbfikadpdaaGreatDoorW.PrintWords Go.Proofs.YtejnfbfikadpdaaGreatDoorW.PrintLast Go.Proofs.YtejnfbfikadpdaaGreatDoorW.PrintMore Go.Proofs.YtejnfbfikadpdaaGreatDoor.Iso
set_option linter.unusedVariables false
set_option linter.unusedSimpArgs false
attribute [local go_sem] Oper.semAt_some
theorem wake1 : parseR ⟨#[122, 104, 45, 72, 97, 110, 116, 45, 84, 87, 45, 120, 45, 97]⟩ = .good { T0 with lang := ⟨#[122, 104]⟩, script := ⟨#[104, 97, 110, 116]⟩, region := ⟨#[116, 119]⟩, priv := [⟨#[97]⟩] } := by kernel_rfl
theorem wake2 : parseR ⟨#[100, 101, 45, 49, 57, 48, 49, 45, 49, 57, 48, 49]⟩ = .bad 11 8 ⟨#[118, 97, 114, 105, 97, 110, 116]⟩ := by kernel_rfl
structure Given (W : World) : Prop where
  names : NamesIn W
  err : W.cell? ⟨1, 0, none⟩ = some errV
theorem Given.below {W W' : World} (h : Given W) (hb : Below W.heap.size W W') : Given W' := ⟨h.names.on hb, pw_cell_below hb h.err⟩
set_option maxRecDepth 100000 in
set_option maxHeartbeats 4000000 in
theorem awake_calls (w : World) (hG : Given w) : Calls Tryz.prog 10 #[] w fun e w' => e = .returned (.bool true) ∧ Below w.heap.size w w' := by
  have HG := Lib.hid hG
  obtain ⟨T, hT⟩ : ∃ T : TG, T = { T0 with lang := ⟨#[122, 104]⟩, script := ⟨#[104, 97, 110, 116]⟩, region := ⟨#[116, 119]⟩, priv := [⟨#[97]⟩] } := ⟨_, rfl⟩
  have P1 := Lib.hid (fun W (h : NamesIn W) => Parse_good (wake1.trans (by rw [← hT])) (by decide) W h)
  have P2 := Lib.hid (fun W (h : NamesIn W) => Parse_bad wake2 (by decide) W h)
  have t0 : T.lang = ⟨#[122, 104]⟩ := by rw [hT]
  have t2 : T.script = ⟨#[104, 97, 110, 116]⟩ := by rw [hT]
  have t3 : T.region = ⟨#[116, 119]⟩ := by rw [hT]
  have t6 : T.priv.length = 1 := by rw [hT]; rfl
  clear hG hT
  go_enter Tryz.func10, Tryz.ntmps10
  go_wp2_with (first
    | (go_at_call 13; refine (P1.out _ HG.out.names).mono ?_; rintro e w1 ⟨A1, c1, A4, c4, A5, c5, A6, c6, rfl, hr, hb⟩; have HB1 := Lib.hid hb; clear hb hr P1)
    | (go_at_call 13; refine (P2.out _ ((HG.out.below HB1.out).below (below_alloc (Below.refl _ _) _)).names).mono ?_; rintro e w2 ⟨B1, d1, B4, d4, B5, d5, B6, d6, B, rfl, hF, hr, hb⟩; obtain ⟨ob, hob⟩ : ∃ ob : Obj, ob = .cells #[.string ⟨#[]⟩, .slice B1 0 d1, .string ⟨#[]⟩, .string ⟨#[]⟩, .slice B4 0 d4, .slice B5 0 d5, .slice B6 0 d6, .string ⟨#[]⟩] 29 := ⟨_, rfl⟩; have HF2 := Lib.hid (hF.below (below_alloc (Below.refl _ _) ob)); have HB2 := Lib.hid (below_step (below_step HB1.out (below_alloc (Below.refl _ _) _)) hb); have tb := blk_on (new_blk w1 _) hb; obtain ⟨g0, g1, g2, g3, g4, g5, g6, g7⟩ := cells8o tb ob; have HB3 := Lib.hid (below_alloc HB2.out ob); subst hob; clear hF hb hr P2 tb g1 g4 g5 g7)
    | (go_at_call 25; refine (kind_calls (r := .bad 11 8 ⟨#[118, 97, 114, 105, 97, 110, 116]⟩) (HG.out.below HB3.out).err ⟨B, rfl, HF2.out⟩).mono ?_; rintro e w4 ⟨he, hb⟩; obtain rfl : e = .returned (.int .i64 11) := he; have HF4 := Lib.hid (HF2.out.below hb); have HB4 := Lib.hid (below_step HB3.out hb); clear hb)
    | (go_at_call 26; refine (place_calls (r := .bad 11 8 ⟨#[118, 97, 114, 105, 97, 110, 116]⟩) ⟨B, rfl, HF4.out⟩).mono ?_; rintro e w5 ⟨he, hb⟩; obtain rfl : e = .returned (.int .i64 8) := he; have HB5 := Lib.hid (below_step HB4.out hb); clear hb))
  go_ret
  exact ⟨rfl, HB5.out⟩
end Go.Proofs.YtejnfbfikadpdaaGreatDoor.P
namespace Go.Proofs.YtejnfbfikadpdaaGreatDoor.P
open Go.RowKit Go.Shelf Go.Proofs.YtejnfbfikadpdaaGreatDoorW.PrintWords Go.Proofs.YtejnfbfikadpdaaGreatDoorW.PrintLast Go.Proofs.YtejnfbfikadpdaaGreatDoorW.PrintMore Go.Proofs.YtejnfbfikadpdaaGreatDoor.Iso
set_option linter.unusedVariables false
set_option linter.unusedSimpArgs false
theorem blk_alloc1 {w : World} {g : Nat} {o : Obj} (h : w.heap[g]? = some o) (q : Obj) : (w.alloc q).heap[g]? = some o := blk_on h (below_alloc (Below.refl _ _) _)
theorem cells8p {w : World} {g : Nat} {t : TypeId} {x0 x1 x2 x3 x4 x5 x6 x7 : Value} (h : w.heap[g]? = some (.cells #[x0, x1, x2, x3, x4, x5, x6, x7] t (0, 0))) : w.cell? ⟨g, 0, none⟩ = some x0 ∧ w.cell? ⟨g, 1, none⟩ = some x1 ∧ w.cell? ⟨g, 2, none⟩ = some x2 ∧ w.cell? ⟨g, 3, none⟩ = some x3 ∧ w.cell? ⟨g, 4, none⟩ = some x4 ∧ w.cell? ⟨g, 5, none⟩ = some x5 ∧ w.cell? ⟨g, 6, none⟩ = some x6 ∧ w.cell? ⟨g, 7, none⟩ = some x7 :=
  (C8_ h)
theorem sameL_refl : ∀ xs : List S47, sameL xs xs = true
  | [] => rfl
  | x :: xs => by unfold sameL sameX; rw [sameL_refl xs, decide_eq_true rfl, decide_eq_true rfl]; rfl
theorem sameT_refl (T : TG) : sameT T T = true := by
  unfold sameT; rw [sameL_refl]; simp
def shortB (s : ByteArray) : ByteArray := if s.size > 80 then s.extract 0 80 else s
theorem shortB_size (s : ByteArray) : (shortB s).size ≤ 80 := by
  unfold shortB
  split
  · rw [ByteArray.size_extract]; omega
  · omega
theorem short_calls (s : ByteArray) (W : World) : Calls Tryz.prog 18 #[.string s] W fun e W' => e = .returned (.string (shortB s)) ∧ Below W.heap.size W W' := by
  refine (w7_short.calls s (shortB s) W ?_).mono fun e W' ⟨he, hd⟩ => ⟨he, hd.below⟩
  unfold w7_short.f shortB
  by_cases c : s.size > 80
  · rw [if_pos (by omega), if_pos (by decide), if_pos (by omega), if_pos c]
  · rw [if_neg (by omega), if_neg c]
theorem lower02_calls (s : ByteArray) (hs : s.size ≤ 140737488355328) (W : World) : Calls Tryz.prog 24 #[.string s] W fun e W' => e = .returned (.string (mk (low (bl s)))) ∧ Below W.heap.size W W' := by
  obtain ⟨k, hk⟩ := (ref_Lower_ev s hs).rounds
  exact r2_Lower.calls k s _ W hk
theorem C_none (W : World) (A : Option Addr) (c : Nat) : Kd.C Kd.string W A ([] : List ByteArray).length ([] : List ByteArray) ∧ ([] : List ByteArray).length ≤ c := ⟨⟨rfl, by decide, fun h => absurd h (Nat.lt_irrefl _)⟩, Nat.zero_le _⟩
abbrev IntsC (W : World) (A : Option Addr) (c : Nat) (l : List Int) : Prop := Kd.C (Kd.int .i64) W A l.length l ∧ l.length ≤ c
theorem IntsC.below {W W' : World} {A : Option Addr} {c : Nat} {l : List Int} (h : IntsC W A c l) (hb : Below W.heap.size W W') : IntsC W' A c l := ⟨Kd.C_below h.1 hb, h.2⟩
theorem made_calls (a0 a1 a2 a3 : Int) (l4 l5 l6 : List Int) (a7 : Int) : ∃ B : TG, BaseT B l6 ∧ ∀ (A4 : Option Addr) (c4 : Nat) (A5 : Option Addr) (c5 : Nat) (A6 : Option Addr) (c6 : Nat) (W : World), IntsC W A4 c4 l4 → IntsC W A5 c5 l5 → IntsC W A6 c6 l6 →
    Calls Tryz.prog 11 #[.agg #[.int .i64 a0, .int .i64 a1, .int .i64 a2, .int .i64 a3, .slice A4 l4.length c4, .slice A5 l5.length c5, .slice A6 l6.length c6, .int .i64 a7]] W fun e W' => ∃ A1 c1 A4 c4 A5 c5 A6 c6, e = .returned (.agg (tagCells (spoiltT B (oddN a7)) A1 c1 A4 c4 A5 c5 A6 c6)) ∧ RowsC W' (spoiltT B (oddN a7)) A1 c1 A4 c4 A5 c5 A6 c6 ∧ Below W.heap.size W W' := by
  obtain ⟨r, hr, B, hB, e⟩ := Made_told a0 a1 a2 a3 l4 l5 l6 a7
  subst e
  obtain ⟨k, hk⟩ := hr.rounds
  exact ⟨B, hB, fun A4 c4 A5 c5 A6 c6 W h4 h5 h6 => Made_tag k a0 a1 a2 a3 A4 c4 l4 A5 c5 l5 A6 c6 l6 a7 _ W h4 h5 h6 hk⟩
theorem Parse_own {s : ByteArray} {T : TG} (hr : parseR s = .good T) (hs : s.size ≤ 900000) (w : World) (hN : NamesIn w) : Calls Tryz.prog 13 #[.string s] w fun e W' => ∃ A1 c1 A4 c4 A5 c5 A6 c6,
    e = .returned (.tuple #[.agg (tagCells T A1 c1 A4 c4 A5 c5 A6 c6), .nilIface]) ∧ OwnT W' w.heap.size (.slice A1 T.ext.length c1) (.slice A4 T.vars.length c4) (.slice A5 T.exts.length c5) (.slice A6 T.priv.length c6) T.ext T.vars T.exts T.priv ∧ Below w.heap.size w W' := by
  refine (Parse_calls s hs w hN).mono ?_
  rintro e W' ⟨hb, h⟩
  rw [hr] at h
  obtain ⟨u1, u4, u5, u6, rfl, ho⟩ := h
  obtain ⟨A1, c1, e1⟩ := Kd.R_slice ho.1
  obtain ⟨A4, c4, e4⟩ := Kd.R_slice ho.2.1
  obtain ⟨A5, c5, e5⟩ := Kd.S_slice ho.2.2.1
  obtain ⟨A6, c6, e6⟩ := Kd.R_slice ho.2.2.2
  subst e1 e4 e5 e6
  exact ⟨A1, c1, A4, c4, A5, c5, A6, c6, rfl, ho, hb⟩
end Go.Proofs.YtejnfbfikadpdaaGreatDoor.P
