/- The law ParseGrows, walked. Condition: the error's variable and the names. -/
import Derived.Test.YtejnfbfikadpdaaGreatDoorHandUse
import Derived.Test.YtejnfbfikadpdaaGreatDoorSq
import Derived.Test.YtejnfbfikadpdaaGreatDoorPureBase
import Derived.Test.YtejnfbfikadpdaaGreatDoorPx10
import Derived.Test.YtejnfbfikadpdaaGreatDoorPurePriv
import Derived.Test.YtejnfbfikadpdaaGreatDoorPx8
import Derived.Test.YtejnfbfikadpdaaGreatDoorPx6
import Derived.Test.YtejnfbfikadpdaaGreatDoorEvRight
import Derived.Test.YtejnfbfikadpdaaGreatDoorHandRec
import Derived.Test.YtejnfbfikadpdaaGreatDoorPureGrow
import Derived.Deep.DeepCutAuto
import Derived.Deep.CutBlock
import Derived.Test.YtejnfbfikadpdaaGreatDoorPx14
namespace Go.Proofs.YtejnfbfikadpdaaGreatDoor.P
open Go.RowKit Go.Shelf Go.Proofs.YtejnfbfikadpdaaGreatDoorW.PrintWords Go.Proofs.YtejnfbfikadpdaaGreatDoorW.PrintLast Go.Proofs.YtejnfbfikadpdaaGreatDoorW.PrintMore Go.Proofs.YtejnfbfikadpdaaGreatDoor.Iso
set_option linter.unusedVariables false
set_option linter.unusedSimpArgs false
attribute [local go_sem] Oper.semAt_some
theorem wake1 : parseR ⟨#[122, 104, 45, 72, 97, 110, 116, 45, 84, 87, 45, 120, 45, 97]⟩ = .good { T0 with lang := ⟨#[122, 104]⟩, script := ⟨#[104, 97, 110, 116]⟩, region := ⟨#[116, 119]⟩, priv := [⟨#[97]⟩] } := by kernel_rfl
theorem wake2 : parseR ⟨#[100, 101, 45, 49, 57, 48, 49, 45, 49, 57, 48, 49]⟩ = .bad 11 8 ⟨#[118, 97, 114, 105, 97, 110, 116]⟩ := by kernel_rfl
structure Given (W : World) : Prop where
  names : NamesIn W
  err : W.cell? ⟨1, 0, none⟩ = some errV
theorem Given.below {W W' : World} (h : Given W) (hb : Below W.heap.size W W') : Given W' := ⟨h.names.on hb, pw_cell_below hb h.err⟩
set_option maxRecDepth 100000 in
set_option maxHeartbeats 4000000 in
theorem awake_calls (w : World) (hG : Given w) : Calls Tryz.prog 10 #[] w fun e w' => e = .returned (.bool true) ∧ Below w.heap.size w w' := by
  have HG := Lib.hid hG
  obtain ⟨T, hT⟩ : ∃ T : TG, T = { T0 with lang := ⟨#[122, 104]⟩, script := ⟨#[104, 97, 110, 116]⟩, region := ⟨#[116, 119]⟩, priv := [⟨#[97]⟩] } := ⟨_, rfl⟩
  have P1 := Lib.hid (fun W (h : NamesIn W) => Parse_good (wake1.trans (by rw [← hT])) (by decide) W h)
  have P2 := Lib.hid (fun W (h : NamesIn W) => Parse_bad wake2 (by decide) W h)
  have t0 : T.lang = ⟨#[122, 104]⟩ := by rw [hT]
  have t2 : T.script = ⟨#[104, 97, 110, 116]⟩ := by rw [hT]
  have t3 : T.region = ⟨#[116, 119]⟩ := by rw [hT]
  have t6 : T.priv.length = 1 := by rw [hT]; rfl
  clear hG hT
  go_enter Tryz.func10, Tryz.ntmps10
  go_wp2_with (first
    | (go_at_call 13; refine (P1.out _ HG.out.names).mono ?_; rintro e w1 ⟨A1, c1, A4, c4, A5, c5, A6, c6, rfl, hr, hb⟩; have HB1 := Lib.hid hb; clear hb hr P1)
    | (go_at_call 13; refine (P2.out _ ((HG.out.below HB1.out).below (below_alloc (Below.refl _ _) _)).names).mono ?_; rintro e w2 ⟨B1, d1, B4, d4, B5, d5, B6, d6, B, rfl, hF, hr, hb⟩; obtain ⟨ob, hob⟩ : ∃ ob : Obj, ob = .cells #[.string ⟨#[]⟩, .slice B1 0 d1, .string ⟨#[]⟩, .string ⟨#[]⟩, .slice B4 0 d4, .slice B5 0 d5, .slice B6 0 d6, .string ⟨#[]⟩] 29 := ⟨_, rfl⟩; have HF2 := Lib.hid (hF.below (below_alloc (Below.refl _ _) ob)); have HB2 := Lib.hid (below_step (below_step HB1.out (below_alloc (Below.refl _ _) _)) hb); have tb := blk_on (new_blk w1 _) hb; obtain ⟨g0, g1, g2, g3, g4, g5, g6, g7⟩ := cells8o tb ob; have HB3 := Lib.hid (below_alloc HB2.out ob); subst hob; clear hF hb hr P2 tb g1 g4 g5 g7)
    | (go_at_call 25; refine (kind_calls (r := .bad 11 8 ⟨#[118, 97, 114, 105, 97, 110, 116]⟩) (HG.out.below HB3.out).err ⟨B, rfl, HF2.out⟩).mono ?_; rintro e w4 ⟨he, hb⟩; obtain rfl : e = .returned (.int .i64 11) := he; have HF4 := Lib.hid (HF2.out.below hb); have HB4 := Lib.hid (below_step HB3.out hb); clear hb)
    | (go_at_call 26; refine (place_calls (r := .bad 11 8 ⟨#[118, 97, 114, 105, 97, 110, 116]⟩) ⟨B, rfl, HF4.out⟩).mono ?_; rintro e w5 ⟨he, hb⟩; obtain rfl : e = .returned (.int .i64 8) := he; have HB5 := Lib.hid (below_step HB4.out hb); clear hb))
  go_ret
  exact ⟨rfl, HB5.out⟩
end Go.Proofs.YtejnfbfikadpdaaGreatDoor.P
namespace Go.Proofs.YtejnfbfikadpdaaGreatDoor.P
open Go.RowKit Go.Shelf Go.Proofs.YtejnfbfikadpdaaGreatDoorW.PrintWords Go.Proofs.YtejnfbfikadpdaaGreatDoorW.PrintLast Go.Proofs.YtejnfbfikadpdaaGreatDoorW.PrintMore Go.Proofs.YtejnfbfikadpdaaGreatDoor.Iso
set_option linter.unusedVariables false
set_option linter.unusedSimpArgs false
theorem blk_alloc1 {w : World} {g : Nat} {o : Obj} (h : w.heap[g]? = some o) (q : Obj) : (w.alloc q).heap[g]? = some o := blk_on h (below_alloc (Below.refl _ _) _)
theorem cells8p {w : World} {g : Nat} {t : TypeId} {x0 x1 x2 x3 x4 x5 x6 x7 : Value} (h : w.heap[g]? = some (.cells #[x0, x1, x2, x3, x4, x5, x6, x7] t (0, 0))) : w.cell? ⟨g, 0, none⟩ = some x0 ∧ w.cell? ⟨g, 1, none⟩ = some x1 ∧ w.cell? ⟨g, 2, none⟩ = some x2 ∧ w.cell? ⟨g, 3, none⟩ = some x3 ∧ w.cell? ⟨g, 4, none⟩ = some x4 ∧ w.cell? ⟨g, 5, none⟩ = some x5 ∧ w.cell? ⟨g, 6, none⟩ = some x6 ∧ w.cell? ⟨g, 7, none⟩ = some x7 :=
  (C8_ h)
theorem sameL_refl : ∀ xs : List S47, sameL xs xs = true
  | [] => rfl
  | x :: xs => by unfold sameL sameX; rw [sameL_refl xs, decide_eq_true rfl, decide_eq_true rfl]; rfl
theorem sameT_refl (T : TG) : sameT T T = true := by
  unfold sameT; rw [sameL_refl]; simp
abbrev IntsC (W : World) (A : Option Addr) (c : Nat) (l : List Int) : Prop := Kd.C (Kd.int .i64) W A l.length l ∧ l.length ≤ c
theorem IntsC.below {W W' : World} {A : Option Addr} {c : Nat} {l : List Int} (h : IntsC W A c l) (hb : Below W.heap.size W W') : IntsC W' A c l := ⟨Kd.C_below h.1 hb, h.2⟩
theorem made_calls (a0 a1 a2 a3 : Int) (l4 l5 l6 : List Int) (a7 : Int) : ∃ B : TG, BaseT B l6 ∧ ∀ (A4 : Option Addr) (c4 : Nat) (A5 : Option Addr) (c5 : Nat) (A6 : Option Addr) (c6 : Nat) (W : World), IntsC W A4 c4 l4 → IntsC W A5 c5 l5 → IntsC W A6 c6 l6 →
    Calls Tryz.prog 11 #[.agg #[.int .i64 a0, .int .i64 a1, .int .i64 a2, .int .i64 a3, .slice A4 l4.length c4, .slice A5 l5.length c5, .slice A6 l6.length c6, .int .i64 a7]] W fun e W' => ∃ A1 c1 A4 c4 A5 c5 A6 c6, e = .returned (.agg (tagCells (spoiltT B (oddN a7)) A1 c1 A4 c4 A5 c5 A6 c6)) ∧ RowsC W' (spoiltT B (oddN a7)) A1 c1 A4 c4 A5 c5 A6 c6 ∧ Below W.heap.size W W' := by
  obtain ⟨r, hr, B, hB, e⟩ := Made_told a0 a1 a2 a3 l4 l5 l6 a7
  subst e
  obtain ⟨k, hk⟩ := hr.rounds
  exact ⟨B, hB, fun A4 c4 A5 c5 A6 c6 W h4 h5 h6 => Made_tag k a0 a1 a2 a3 A4 c4 l4 A5 c5 l5 A6 c6 l6 a7 _ W h4 h5 h6 hk⟩
theorem odd_zero (B : TG) : spoiltT B (oddN 0) = B := by
  unfold spoiltT
  rw [show oddN 0 = 0 by decide +kernel]
  rfl
end Go.Proofs.YtejnfbfikadpdaaGreatDoor.P
namespace Go.Proofs.YtejnfbfikadpdaaGreatDoor.P
open Go.RowKit Go.Shelf Go.Proofs.YtejnfbfikadpdaaGreatDoorW.PrintWords Go.Proofs.YtejnfbfikadpdaaGreatDoorW.PrintLast Go.Proofs.YtejnfbfikadpdaaGreatDoorW.PrintMore Go.Proofs.YtejnfbfikadpdaaGreatDoor.Iso
set_option linter.unusedVariables false
set_option linter.unusedSimpArgs false
attribute [local go_sem] Oper.semAt_some
theorem rest_calls (x n : Int) (h0 : 0 < n) (h1 : n ≤ 1000000) : ∃ r : Int, 0 ≤ r ∧ r < n ∧ ∀ W, Calls Tryz.prog 20 #[.int .i64 x, .int .i64 n] W fun e W' => e = .returned (.int .i64 r) ∧ Below W.heap.size W W' := by
  have t1 : Int.tmod x n < n := Int.tmod_lt_of_pos x h0
  have t2 : -n < Int.tmod x n := by
    have h := Int.tmod_lt_of_pos (-x) h0
    rw [Int.neg_tmod] at h; omega
  have hw : wrap64 (Int.tmod x n + n) = Int.tmod x n + n := by unfold wrap64; omega
  refine ⟨Int.tmod (wrap64 (Int.tmod x n + n)) n, ?_, Int.tmod_lt_of_pos _ h0, fun W => ?_⟩
  · rw [hw]; exact Int.tmod_nonneg _ (by omega)
  · refine (w7_rest.calls x n _ W ?_).mono fun e W' ⟨he, hd⟩ => ⟨he, hd.below⟩
    unfold w7_rest.f
    rw [if_neg (by omega)]
end Go.Proofs.YtejnfbfikadpdaaGreatDoor.P
namespace Go.Proofs.YtejnfbfikadpdaaGreatDoor.P
open Go.RowKit Go.Shelf Go.Proofs.YtejnfbfikadpdaaGreatDoorW.PrintWords Go.Proofs.YtejnfbfikadpdaaGreatDoorW.PrintLast Go.Proofs.YtejnfbfikadpdaaGreatDoorW.PrintMore Go.Proofs.YtejnfbfikadpdaaGreatDoor.Iso
set_option linter.unusedVariables false
set_option linter.unusedSimpArgs false
attribute [local go_sem] Oper.semAt_some
abbrev zR (w : World) : List Value := [.string ⟨#[122]⟩, .slice (some ⟨w.heap.size, 0, none⟩) 2 2]
def rowsOf (inner : List Value) (n : Nat) : List (List Value) := (List.range n).map fun j => (inner.drop (j * 2)).take 2
theorem cells_of {w : World} {A : Option Addr} {l : List S47} (h : Kd.C k47 w A l.length l) :
    ∃ rows : List (List Value), rows.length = l.length ∧ (∀ (j : Nat) (x : S47) (r : List Value), l[j]? = some x → rows[j]? = some r → k47.K w x r) ∧ ReadsRow (fun (x : List Value) (cs : List Value) => cs = x ∧ cs.length = 2 ∧ ∀ u ∈ cs, u.oneCell' = true) 2 w A l.length rows := by
  rcases A with _ | ad
  · have h0 : l = [] := by
      cases l with
      | nil => rfl
      | cons x t =>
        obtain ⟨ad, h, _⟩ := h.2.2 (by simp)
        cases h
    subst h0
    exact ⟨[], rfl, fun j x r hx => by simp at hx, rfl, by simp, fun h => absurd h (Nat.lt_irrefl 0)⟩
  · obtain ⟨inner, hr, hc⟩ := ReadsRow.inner_ h
    have hlen : (rowsOf inner l.length).length = l.length := by unfold rowsOf; rw [List.length_map, List.length_range]
    have hrow : ∀ j r, (rowsOf inner l.length)[j]? = some r → j < l.length ∧ r = (inner.drop (j * 2)).take 2 := by
      intro j r hj
      unfold rowsOf at hj
      rw [List.getElem?_map] at hj
      obtain ⟨i, hi, rfl⟩ := Option.map_eq_some_iff.1 hj
      obtain ⟨h1, h2⟩ := List.getElem?_eq_some_iff.1 hi
      rw [List.length_range] at h1
      rw [List.getElem_range] at h2
      subst h2
      exact ⟨h1, rfl⟩
    refine ⟨rowsOf inner l.length, hlen, fun j x r hx hj => ?_, hlen, h.2.1, fun hp => ⟨ad, rfl, fun j r hj => ?_⟩⟩
    · obtain ⟨_, rfl⟩ := hrow j r hj
      exact hr.2 j x hx
    · obtain ⟨hj1, rfl⟩ := hrow j r hj
      have hK := hr.2 j _ (List.getElem?_eq_getElem hj1)
      have hl2 : ((inner.drop (j * 2)).take 2).length = 2 := k47.K_len hK
      refine ⟨_, hl2, ⟨rfl, hl2, fun u hu => k47.K_one hK u hu⟩, fun i u hu => hc _ u ?_⟩
      have hi : i < 2 := by have := (List.getElem?_eq_some_iff.1 hu).1; omega
      rw [List.getElem?_take, if_pos hi, List.getElem?_drop] at hu
      exact hu
theorem lit_nonE (w : World) : Kd.R (Kd.raw 2) 47 (w.alloc (.cells #[] 47)) w.heap.size (fun _ => True) (.slice (some ⟨w.heap.size, 0, none⟩) 0 0) ([] : List (List Value)) :=
  ⟨fun _ _ => trivial, OwnRow.lit (ps := ([] : List (List Value))) (inner := []) w w.heap.size (Reps.none _ _) (Nat.le_refl _) (by simp)⟩
theorem rows_read {W : World} {A : Option Addr} {rows : List (List Value)} {l : List S47} (h : Kd.C (Kd.raw 2) W A rows.length rows) (hl : rows.length = l.length) (hk : ∀ (j : Nat) (x : S47) (r : List Value), l[j]? = some x → rows[j]? = some r → k47.K W x r) : Kd.C k47 W A l.length l := by
  refine ⟨rfl, by rw [← hl]; exact h.2.1, fun hp => ?_⟩
  obtain ⟨ad, ea, hc⟩ := h.2.2 (by omega)
  refine ⟨ad, ea, fun j x hx => ?_⟩
  have hj : j < rows.length := by have := (List.getElem?_eq_some_iff.1 hx).1; omega
  obtain ⟨c, c1, c2, c3⟩ := hc j _ (List.getElem?_eq_getElem hj)
  have hr : rows[j]? = some c := by
    obtain ⟨e, _⟩ := c2
    rw [e]; exact List.getElem?_eq_getElem hj
  exact ⟨c, c1, hk j x c hx hr, c3⟩
theorem two_read {W : World} {g : Nat} {a b : ByteArray} {t : TypeId} (h : W.heap[g]? = some (.cells #[.string a, .string b] t (0, 0))) : Kd.C Kd.string W (some ⟨g, 0, none⟩) 2 [a, b] := by
  refine ⟨rfl, by decide, fun _ => ⟨⟨g, 0, none⟩, rfl, fun j p hj => ?_⟩⟩
  match j, hj with
  | 0, hj =>
    obtain rfl := Option.some.inj hj
    refine ⟨[.string a], rfl, rfl, fun i u hi => ?_⟩
    match i, hi with
    | 0, hi => obtain rfl := Option.some.inj hi; exact (blk_cell h 0).trans rfl
  | 1, hj =>
    obtain rfl := Option.some.inj hj
    refine ⟨[.string b], rfl, rfl, fun i u hi => ?_⟩
    match i, hi with
    | 0, hi => obtain rfl := Option.some.inj hi; exact (blk_cell h 1).trans rfl
def gr13_T : Bool × List (List Nat × List Nat) := (true, [([], []), ([0], [0]), ([1], [1]), ([2, 1], [1, 2]), ([1], [1]), ([4, 1, 1], [1, 4]), ([3, 5, 1], [1, 3, 5]), ([1, 6], [1, 6]), ([7, 5], [7]), ([8], [8]), ([9, 8], [8, 9]), ([10, 8, 8], [8, 10]), ([11], [11]), ([11, 12, 8], [8, 11, 12]), ([8, 13], [8, 13]), ([14, 11, 0, 1, 2, 3, 4, 5, 6, 7, 8, 9, 10, 11, 12, 13, 14], [14])])
def gr13_B : List Nat := [0, 1, 3, 7, 3, 19, 63, 127, 255, 511, 1023, 2047, 4095, 8191, 16383, 32767]
theorem gr13_tab : rtab .any (opsOf Tryz.f5 13) = gr13_T := by kernel_rfl
theorem gr13_bits : waitsOk gr13_T.2 gr13_B = true := by kernel_rfl
theorem new_blk2 (w : World) (o p : Obj) : ((w.alloc o).alloc p).heap[w.heap.size + 1]? = some p := by
  have := new_blk (w.alloc o) p
  rwa [show (w.alloc o).heap.size = w.heap.size + 1 from by simp] at this
theorem lit_none (w : World) : Kd.R Kd.string 9 (w.alloc (.cells #[] 9)) w.heap.size (fun _ => True) (.slice (some ⟨w.heap.size, 0, none⟩) 0 0) ([] : List ByteArray) :=
  ⟨fun _ _ => trivial, OwnRow.lit (ps := ([] : List ByteArray)) (inner := []) w w.heap.size (Reps.none _ _) (Nat.le_refl _) (by simp)⟩
set_option maxRecDepth 100000 in
set_option maxHeartbeats 16000000 in
theorem grows (x : ByteArray) (a0 a1 a2 a3 : Int) (A4 : Option Addr) (c4 : Nat) (l4 : List Int) (A5 : Option Addr) (c5 : Nat) (l5 : List Int) (A6 : Option Addr) (c6 : Nat) (l6 : List Int) (a7 : Int) (how z : Int) (w : World) (h4 : IntsC w A4 c4 l4) (h5 : IntsC w A5 c5 l5) (h6 : IntsC w A6 c6 l6) (hG : Given w) (B U : TG) (hz0 : 0 ≤ z) (hz3 : z < 3) (hU : U = growT B z) (hl4 : B.vars.length ≤ 1000) (hl5 : B.exts.length ≤ 1000) (hl6 : B.priv.length ≤ 1000)
    (RC0 : ∀ W, Calls Tryz.prog 20 #[.int .i64 how, .int .i64 3] W fun e W' => e = .returned (.int .i64 z) ∧ Below W.heap.size W W')
    (MD : ∀ W, IntsC W A4 c4 l4 → IntsC W A5 c5 l5 → IntsC W A6 c6 l6 → Calls Tryz.prog 11 #[.agg #[.int .i64 a0, .int .i64 a1, .int .i64 a2, .int .i64 a3, .slice A4 l4.length c4, .slice A5 l5.length c5, .slice A6 l6.length c6, .int .i64 0]] W fun e W' => ∃ A1 c1 A4 c4 A5 c5 A6 c6, e = .returned (.agg (tagCells B A1 c1 A4 c4 A5 c5 A6 c6)) ∧ RowsC W' B A1 c1 A4 c4 A5 c5 A6 c6 ∧ Below W.heap.size W W')
    (TX : ∀ W A1 c1 A4 c4 A5 c5 A6 c6, RowsC W U A1 c1 A4 c4 A5 c5 A6 c6 → Calls Tryz.prog 12 #[.agg (tagCells U A1 c1 A4 c4 A5 c5 A6 c6)] W fun e W' => e = .returned (.string x) ∧ Below W.heap.size W W')
    (RI : ∀ W A1 c1 A4 c4 A5 c5 A6 c6, RowsC W U A1 c1 A4 c4 A5 c5 A6 c6 → Calls Tryz.prog 15 #[.agg (tagCells U A1 c1 A4 c4 A5 c5 A6 c6)] W fun e W' => e = .returned (.bool true) ∧ Below W.heap.size W W')
    (PA : ∀ W, NamesIn W → Calls Tryz.prog 13 #[.string x] W fun e W' => ∃ A1 c1 A4 c4 A5 c5 A6 c6, e = .returned (.tuple #[.agg (tagCells U A1 c1 A4 c4 A5 c5 A6 c6), .nilIface]) ∧ RowsC W' U A1 c1 A4 c4 A5 c5 A6 c6 ∧ Below W.heap.size W W') :
    Calls Tryz.prog 5 #[.agg #[.int .i64 a0, .int .i64 a1, .int .i64 a2, .int .i64 a3, .slice A4 l4.length c4, .slice A5 l5.length c5, .slice A6 l6.length c6, .int .i64 a7], .int .i64 how] w fun e w' => e = .returned (.bool true) ∧ Below w.heap.size w w' := by
  have HS4 := Lib.hid h4
  have HS5 := Lib.hid h5
  have HS6 := Lib.hid h6
  have HG := Lib.hid hG
  have RC := Lib.hid RC0
  have HMD := Lib.hid MD
  have HTX := Lib.hid TX
  have HRI := Lib.hid RI
  have HPA := Lib.hid PA
  have HU := Lib.hid hU
  have L4 := Lib.hid hl4
  have L5 := Lib.hid hl5
  have L6 := Lib.hid hl6
  have Z0 := Lib.hid hz0
  have Z3 := Lib.hid hz3
  have HB1 := Lib.hid (below_alloc (Below.refl w.heap.size w) (.cells #[.int .i64 a0, .int .i64 a1, .int .i64 a2, .int .i64 a3, .slice A4 l4.length c4, .slice A5 l5.length c5, .slice A6 l6.length c6, .int .i64 a7] 24))
  have K1 := Lib.hid (new_blk w (.cells #[.int .i64 a0, .int .i64 a1, .int .i64 a2, .int .i64 a3, .slice A4 l4.length c4, .slice A5 l5.length c5, .slice A6 l6.length c6, .int .i64 a7] 24))
  clear h4 h5 h6 hG RC0 MD TX RI PA hU hl4 hl5 hl6 hz0 hz3
  go_enter Tryz.func5, Tryz.ntmps5
  go_upto_region 2 with (go_at_call 10; refine (awake_calls _ (HG.out.below HB1.out)).mono ?_; rintro e w2 ⟨rfl, hb⟩; have HB2 := Lib.hid (below_step HB1.out hb); have K2 := Lib.hid (blk_on K1.out hb); clear hb HB1 K1)
  have f7 := (blk_cell K2.out 7).trans rfl
  have g7 := blk_frozen K2.out 7
  go_upto_region 3 with (fail)
  clear f7 g7
  obtain ⟨V3, hV3⟩ : ∃ V, V = w2.setCell ⟨w.heap.size, 7, none⟩ (.int .i64 0) := ⟨_, rfl⟩
  rw [← hV3]
  have BV3 := Lib.hid (show Below w.heap.size w V3 by rw [hV3]; exact HB2.out.setCell (p := ⟨w.heap.size, 7, none⟩) (Nat.le_refl _) _)
  have KV3 := Lib.hid (show V3.heap[w.heap.size]? = some (.cells #[.int .i64 a0, .int .i64 a1, .int .i64 a2, .int .i64 a3, .slice A4 l4.length c4, .slice A5 l5.length c5, .slice A6 l6.length c6, .int .i64 0] 24 (0, 0)) by rw [hV3]; exact blk_put K2.out 7 _ rfl)
  clear hV3 HB2 K2
  obtain ⟨q0, q1, q2, q3, q4, q5, q6, q7⟩ := cells8p KV3.out
  go_upto_block 0 with (first
    | (go_at_call 11; refine (HMD.out _ (HS4.out.below BV3.out) (HS5.out.below BV3.out) (HS6.out.below BV3.out)).mono ?_; rintro e w4 ⟨B_1, B_c1, B_4, B_c4, B_5, B_c5, B_6, B_c6, rfl, hR, hb⟩; have HB4 := Lib.hid (below_step BV3.out hb); have RB4 := Lib.hid hR; clear q0 q1 q2 q3 q4 q5 q6 q7 hb hR BV3 KV3 HS4 HS5 HS6 HMD; obtain ⟨q0, q1, q2, q3, q4, q5, q6, q7⟩ := cells8p (new_blk w4 (.cells (tagCells B B_1 B_c1 B_4 B_c4 B_5 B_c5 B_6 B_c6) 29)))
    | (go_at_call 20; refine (RC.out _).mono ?_; rintro e w5 ⟨rfl, hb⟩; have T5 := Lib.hid (blk_on (blk_alloc1 (new_blk w4 _) _) hb); have U5 := Lib.hid (blk_on (new_blk2 w4 _ _) hb); have B45 := Lib.hid (below_step (below_alloc (below_alloc (Below.refl _ _) _) _) hb); have RB5 := Lib.hid (RB4.out.below B45.out); clear q0 q1 q2 q3 q4 q5 q6 q7 hb RC))
  go_cut [17] (fun _ wc => ∃ A1 c1 A4 c4 A5 c5 A6 c6, Hid (RowsC wc U A1 c1 A4 c4 A5 c5 A6 c6) ∧ Hid (wc.heap[w4.heap.size + 1]? = some (.cells (tagCells U A1 c1 A4 c4 A5 c5 A6 c6) 29 (0, 0))) ∧ Hid (Below w4.heap.size w4 wc))
  case first =>
    have b4 : (w5.alloc (.cells #[] 9)).cell? ⟨w4.heap.size, 4, none⟩ = some (.slice B_4 B.vars.length B_c4) := (blk_cell (blk_alloc1 T5.out _) 4).trans rfl
    have b5 : (w5.alloc (.cells #[] 47)).cell? ⟨w4.heap.size, 5, none⟩ = some (.slice B_5 B.exts.length B_c5) := (blk_cell (blk_alloc1 T5.out _) 5).trans rfl
    have b6 : (w5.alloc (.cells #[] 9)).cell? ⟨w4.heap.size, 6, none⟩ = some (.slice B_6 B.priv.length B_c6) := (blk_cell (blk_alloc1 T5.out _) 6).trans rfl
    by_cases z0 : z = 0
    · have q0 : (z == (0 : Int)) = true := by rw [z0]; rfl
      have HL := Lib.hid L4.out
      have R0 := Lib.hid (lit_none w5)
      obtain ⟨y2, hy2⟩ : ∃ l, l = B.vars ++ [zV] := ⟨_, rfl⟩
      have HY := Lib.hid hy2
      have HU2 := Lib.hid (show U = { B with vars := y2 } from by rw [HU.out, hy2, z0]; rfl)
      clear z0 hy2 L4 L5 L6
      go_wp2_with (first
        | (at_builtin; refine Kd.R_append_rows Kd.string (w0 := w5) w5.heap.size rfl (.tmp 27) (.tmp 29) 26 9 (.string ⟨#[]⟩) 16 rfl Tryz.underlying26 info9 rfl (by decide) (by decide) (.slice (some ⟨w5.heap.size, 0, none⟩) 0 0) [] B.vars B_4 B.vars.length B_c4 (fun _ => True) (fun _ => False) rfl rfl R0.out (Kd.C_below RB5.out.2.1.1 (below_alloc (Below.refl _ _) _)) (fun _ _ h => h) (fun _ hk => hk.elim) (fun _ _ => trivial) (below_alloc (Below.refl _ _) _) ?aS ?aL ?_; (case aS => simp); (case aL => have := HL.out; simp; omega); intro v6 w6 hr hb hg hat; rw [List.nil_append] at hr; obtain ⟨A6_, c6_, hv6⟩ := Kd.R_slice hr; subst hv6; have R6 := Lib.hid hr; have HB6 := Lib.hid hb; have U6 := Lib.hid (blk_on U5.out hb); clear hr hb hg hat R0)
        | (at_builtin; refine Kd.R_append Kd.string (w0 := w6) w5.heap.size rfl (.tmp 30) (.tmp 31) 26 9 (.string ⟨#[]⟩) 16 rfl Tryz.underlying26 info9 rfl (by decide) (by decide) (.slice A6_ B.vars.length c6_) B.vars zV [.string zV] (fun _ => True) (fun _ => False) rfl rfl ?aP (fun _ hk => hk.elim) ?aF R6.out (Below.refl _ _) ?aS ?aL ?_; (case aP => rfl); (case aF => exact fun _ _ => trivial); (case aS => exact HB6.out.size); (case aL => have := HL.out; omega); intro v7 w7 hr hb hg hat; rw [← HY.out] at hr; obtain ⟨A7_, c7_, hv7⟩ := Kd.R_slice hr; subst hv7; have R7 := Lib.hid hr; have HB7 := Lib.hid (HB6.out.trans hb); have U7 := Lib.hid ((hb.block _ (blk_lt U5.out)).trans U6.out); have k7 : w7.cell? ⟨w4.heap.size + 1, 4, none⟩ = some (.slice B_4 B.vars.length B_c4) := (blk_cell U7.out 4).trans rfl; have f7 := blk_frozen U7.out 4; clear hr hb hg hat))
      have bw := ((B45.out.trans (below_lower HB7.out B45.out.size)).setCell (p := ⟨w4.heap.size + 1, 4, none⟩) (Nat.le_succ _) (.slice A7_ y2.length c7_))
      have rb := RB4.out.below bw
      go_meet
      case rel =>
        rw [HU2.out]
        exact ⟨B_1, B_c1, A7_, c7_, B_5, B_c5, B_6, B_c6, Lib.hid ⟨rb.1, ⟨(Kd.R_reads' (Kd.R_set R7.out U7.out (by decide) 4 _)).2.2, (Kd.R_reads' R7.out).2.1⟩, rb.2.2.1, rb.2.2.2⟩, Lib.hid (blk_put U7.out 4 _ rfl), Lib.hid bw⟩
    · have q0 : (z == (0 : Int)) = false := beq_eq_false_iff_ne.2 z0
      by_cases z1 : z = 1
      · have q1 : (z == (1 : Int)) = true := by rw [z1]; rfl
        obtain ⟨rows, hrl, hrk, hrr⟩ := cells_of RB4.out.2.2.1.1
        have HRL := Lib.hid hrl
        have HRK := Lib.hid hrk
        have HRR := Lib.hid (ReadsRow.imp_ hrr B45.out (fun _ _ h => h))
        have HL := Lib.hid L5.out
        have R0 := Lib.hid (lit_nonE w5)
        obtain ⟨y2, hy2⟩ : ∃ l, l = B.exts ++ [zX] := ⟨_, rfl⟩
        have HY := Lib.hid hy2
        have HU2 := Lib.hid (show U = { B with exts := y2 } from by rw [HU.out, hy2]; unfold growT; rw [if_neg z0, if_pos z1])
        clear z0 z1 hy2 L4 L5 L6 hrl hrk hrr
        go_wp2_with (first
          | (at_builtin; refine Kd.R_append_rows (Kd.raw 2) (w0 := w5) w5.heap.size rfl (.tmp 36) (.tmp 38) 27 47 (.agg #[.string ⟨#[]⟩, .slice none 0 0]) 40 rfl Tryz.underlying27 info47 rfl (by decide) (by decide) (.slice (some ⟨w5.heap.size, 0, none⟩) 0 0) [] rows B_5 B.exts.length B_c5 (fun _ => True) (fun _ => False) rfl rfl R0.out ?aR (fun _ _ h => h) (fun _ hk => hk.elim) (fun _ _ => trivial) (below_alloc (Below.refl _ _) _) ?aS ?aL ?_; (case aR => exact ReadsRow.imp_ HRR.out (below_alloc (Below.refl _ _) _) (fun _ _ h => h)); (case aS => simp); (case aL => have := HL.out; simp; omega); intro v6 w6 hr hb hg hat; rw [List.nil_append] at hr; obtain ⟨A6_, c6_, hv6⟩ := Kd.R_slice hr; subst hv6; have R6 := Lib.hid hr; have HB6 := Lib.hid hb; have U6 := Lib.hid (blk_on U5.out hb); clear hr hb hg hat R0)
          | (at_builtin; refine Kd.R_append (Kd.raw 2) (w0 := (w6.alloc (.cells #[.string ⟨#[97, 98]⟩, .string ⟨#[99, 100]⟩] 9))) w5.heap.size rfl (.tmp 39) (.tmp 42) 27 47 (.agg #[.string ⟨#[]⟩, .slice none 0 0]) 40 rfl Tryz.underlying27 info47 rfl (by decide) (by decide) (.slice A6_ rows.length c6_) rows (zR w6) (zR w6) (fun _ => True) (fun _ => False) rfl ?aX ?aP (fun _ hk => hk.elim) ?aF (Kd.R_below R6.out (below_alloc (Below.refl _ _) _)) (Below.refl _ _) ?aS ?aL ?_; (case aX => show Value.slice (some ⟨w6.heap.size + 1, 0, none⟩) _ _ = _; simp); (case aP => exact ⟨rfl, rfl, fun u hu => by simp at hu; rcases hu with rfl | rfl <;> rfl⟩); (case aF => exact fun _ _ => trivial); (case aS => have := HB6.out.size; simp; omega); (case aL => have := HL.out; have := HRL.out; omega); intro v7 w7 hr hb hg hat; have S7 := Lib.hid (blk_grown (new_blk w6 (.cells #[.string ⟨#[97, 98]⟩, .string ⟨#[99, 100]⟩] 9)) hg (Kd.R_ne (Kd.R_below R6.out (below_alloc (Below.refl _ _) (.cells #[.string ⟨#[97, 98]⟩, .string ⟨#[99, 100]⟩] 9))) (new_blk w6 (.cells #[.string ⟨#[97, 98]⟩, .string ⟨#[99, 100]⟩] 9)) (by decide))); obtain ⟨A7_, c7_, hv7⟩ := Kd.R_slice hr; subst hv7; have R7 := Lib.hid hr; have HB7 := Lib.hid ((HB6.out.alloc HB6.out.size _).trans hb); have U7 := Lib.hid ((HB7.out.block _ (blk_lt U5.out)).trans U5.out); have k7 : w7.cell? ⟨w4.heap.size + 1, 5, none⟩ = some (.slice B_5 B.exts.length B_c5) := (blk_cell U7.out 5).trans rfl; have f7 := blk_frozen U7.out 5; clear hr hb hg hat))
        have bw := ((B45.out.trans (below_lower HB7.out B45.out.size)).setCell (p := ⟨w4.heap.size + 1, 5, none⟩) (Nat.le_succ _) (.slice A7_ (rows ++ [(zR w6)]).length c7_))
        have rb := RB4.out.below bw
        have hlen : (rows ++ [(zR w6)]).length = y2.length := by rw [HY.out, List.length_append, List.length_append, HRL.out]; rfl
        have hs7 := blk_far S7.out (p := ⟨w4.heap.size + 1, 5, none⟩) (by have := HB6.out.size; have := blk_lt U5.out; show w6.heap.size ≠ w4.heap.size + 1; omega) (.slice A7_ (rows ++ [(zR w6)]).length c7_)
        have hR := Kd.R_reads' (Kd.R_set R7.out U7.out (by decide) 5 (.slice A7_ (rows ++ [(zR w6)]).length c7_))
        have hC := rows_read (l := y2) hR.2.2 hlen (fun j x r hx hr => by
          rw [HY.out] at hx
          by_cases hj : j < B.exts.length
          · rw [List.getElem?_append_left hj] at hx
            rw [List.getElem?_append_left (by rw [HRL.out]; exact hj)] at hr
            obtain ⟨A1, c1, rfl, l1, g1⟩ := k47_open (HRK.out j x r hx hr)
            exact k47_mk _ x l1 (Kd.C_below g1 bw)
          · have hj2 : j = B.exts.length := by
              have := (List.getElem?_eq_some_iff.1 hx).1
              rw [List.length_append, List.length_singleton] at this
              omega
            subst hj2
            rw [List.getElem?_append_right (Nat.le_refl _), Nat.sub_self] at hx
            rw [← HRL.out, List.getElem?_append_right (Nat.le_refl _), Nat.sub_self] at hr
            obtain rfl := Option.some.inj hx
            obtain rfl := Option.some.inj hr
            exact k47_mk _ zX (Nat.le_refl 2) (two_read hs7))
        go_meet
        case rel =>
          rw [HU2.out]
          have hL1 : rows.length + 1 = y2.length := by rw [← hlen, List.length_append]; rfl
          rw [hlen] at hR hC
          rw [hL1]
          rw [hlen] at rb
          exact ⟨B_1, B_c1, B_4, B_c4, A7_, c7_, B_6, B_c6, Lib.hid ⟨rb.1, rb.2.1, ⟨hC, by have := hR.2.1; omega⟩, rb.2.2.2⟩, Lib.hid (blk_put U7.out 5 _ rfl), Lib.hid (by rw [hlen] at bw; exact bw)⟩
      · have q1 : (z == (1 : Int)) = false := beq_eq_false_iff_ne.2 z1
        have HL := Lib.hid L6.out
        have R0 := Lib.hid (lit_none w5)
        obtain ⟨y2, hy2⟩ : ∃ l, l = B.priv ++ [qP] := ⟨_, rfl⟩
        have HY := Lib.hid hy2
        have HU2 := Lib.hid (show U = { B with priv := y2 } from by rw [HU.out, hy2]; unfold growT; rw [if_neg z0, if_neg z1])
        clear z0 z1 hy2 L4 L5 L6
        go_wp2_with (first
          | (at_builtin; refine Kd.R_append_rows Kd.string (w0 := w5) w5.heap.size rfl (.tmp 18) (.tmp 20) 26 9 (.string ⟨#[]⟩) 16 rfl Tryz.underlying26 info9 rfl (by decide) (by decide) (.slice (some ⟨w5.heap.size, 0, none⟩) 0 0) [] B.priv B_6 B.priv.length B_c6 (fun _ => True) (fun _ => False) rfl rfl R0.out (Kd.C_below RB5.out.2.2.2.1 (below_alloc (Below.refl _ _) _)) (fun _ _ h => h) (fun _ hk => hk.elim) (fun _ _ => trivial) (below_alloc (Below.refl _ _) _) ?aS ?aL ?_; (case aS => simp); (case aL => have := HL.out; simp; omega); intro v6 w6 hr hb hg hat; rw [List.nil_append] at hr; obtain ⟨A6_, c6_, hv6⟩ := Kd.R_slice hr; subst hv6; have R6 := Lib.hid hr; have HB6 := Lib.hid hb; have U6 := Lib.hid (blk_on U5.out hb); clear hr hb hg hat R0)
          | (at_builtin; refine Kd.R_append Kd.string (w0 := w6) w5.heap.size rfl (.tmp 21) (.tmp 22) 26 9 (.string ⟨#[]⟩) 16 rfl Tryz.underlying26 info9 rfl (by decide) (by decide) (.slice A6_ B.priv.length c6_) B.priv qP [.string qP] (fun _ => True) (fun _ => False) rfl rfl ?aP (fun _ hk => hk.elim) ?aF R6.out (Below.refl _ _) ?aS ?aL ?_; (case aP => rfl); (case aF => exact fun _ _ => trivial); (case aS => exact HB6.out.size); (case aL => have := HL.out; omega); intro v7 w7 hr hb hg hat; rw [← HY.out] at hr; obtain ⟨A7_, c7_, hv7⟩ := Kd.R_slice hr; subst hv7; have R7 := Lib.hid hr; have HB7 := Lib.hid (HB6.out.trans hb); have U7 := Lib.hid ((hb.block _ (blk_lt U5.out)).trans U6.out); have k7 : w7.cell? ⟨w4.heap.size + 1, 6, none⟩ = some (.slice B_6 B.priv.length B_c6) := (blk_cell U7.out 6).trans rfl; have f7 := blk_frozen U7.out 6; clear hr hb hg hat))
        have bw := ((B45.out.trans (below_lower HB7.out B45.out.size)).setCell (p := ⟨w4.heap.size + 1, 6, none⟩) (Nat.le_succ _) (.slice A7_ y2.length c7_))
        have rb := RB4.out.below bw
        go_meet
        case rel =>
          rw [HU2.out]
          exact ⟨B_1, B_c1, B_4, B_c4, B_5, B_c5, A7_, c7_, Lib.hid ⟨rb.1, rb.2.1, rb.2.2.1, ⟨(Kd.R_reads' (Kd.R_set R7.out U7.out (by decide) 6 _)).2.2, (Kd.R_reads' R7.out).2.1⟩⟩, Lib.hid (blk_put U7.out 6 _ rfl), Lib.hid bw⟩
  case rest =>
    obtain ⟨U_1, U_c1, U_4, U_c4, U_5, U_c5, U_6, U_c6, RU, UB, BC⟩ := hcut
    have HBC := Lib.hid (HB4.out.trans (below_lower BC.out HB4.out.size))
    clear BC HB4 RB4 RB5 B45 T5 U5 HU L4 L5 L6
    obtain ⟨q0, q1, q2, q3, q4, q5, q6, q7⟩ := cells8p UB.out
    go_upto_region 13 with (first
      | (go_at_call 12; refine (HTX.out _ _ _ _ _ _ _ _ _ RU.out).mono ?_; rintro e w8 ⟨rfl, hb⟩; have HB8 := Lib.hid (below_step HBC.out hb); have RU8 := Lib.hid (RU.out.below hb); have UB8 := Lib.hid (blk_on UB.out hb); clear hb q0 q1 q2 q3 q4 q5 q6 q7 HBC RU UB HTX)
      | (go_at_call 13; refine (HPA.out _ (HG.out.below HB8.out).names).mono ?_; rintro e w9 ⟨V_1, V_c1, V_4, V_c4, V_5, V_c5, V_6, V_c6, rfl, hR, hb⟩; have HB9 := Lib.hid (below_step HB8.out hb); have RU9 := Lib.hid (RU8.out.below hb); have RV9 := Lib.hid hR; have UB9 := Lib.hid (blk_on UB8.out hb); clear hb hR HB8 RU8 UB8 HPA; obtain ⟨q0, q1, q2, q3, q4, q5, q6, q7⟩ := cells8o UB9.out (.cells (tagCells U V_1 V_c1 V_4 V_c4 V_5 V_c5 V_6 V_c6) 29); obtain ⟨p0, p1, p2, p3, p4, p5, p6, p7⟩ := cells8p (new_blk w9 (.cells (tagCells U V_1 V_c1 V_4 V_c4 V_5 V_c5 V_6 V_c6) 29)))
      | (go_at_call 16; refine (same_calls (T := U) (RV9.out.below (below_alloc (Below.refl _ _) _)) (RU9.out.below (below_alloc (Below.refl _ _) _))).mono ?_; rw [sameT_refl]; rintro e w10 ⟨rfl, hb⟩; have HB10 := Lib.hid (below_step (below_alloc HB9.out _) hb); have RU10 := Lib.hid ((RU9.out.below (below_alloc (Below.refl _ _) _)).below hb); have UB10 := Lib.hid (blk_on (blk_alloc1 UB9.out _) hb); clear q0 q1 q2 q3 q4 q5 q6 q7 p0 p1 p2 p3 p4 p5 p6 p7 hb HB9 RU9 RV9 UB9))
    have EQ := Lib.hid (fun (w' : World) (h : Below w10.heap.size w10 w') => (⟨pw_cell_below h ((blk_cell UB10.out 0).trans rfl), pw_cell_below h ((blk_cell UB10.out 1).trans rfl), pw_cell_below h ((blk_cell UB10.out 2).trans rfl), pw_cell_below h ((blk_cell UB10.out 3).trans rfl), pw_cell_below h ((blk_cell UB10.out 4).trans rfl), pw_cell_below h ((blk_cell UB10.out 5).trans rfl), pw_cell_below h ((blk_cell UB10.out 6).trans rfl), pw_cell_below h ((blk_cell UB10.out 7).trans rfl)⟩ : w'.cell? ⟨w4.heap.size + 1, 0, none⟩ = some (.string U.lang) ∧ w'.cell? ⟨w4.heap.size + 1, 1, none⟩ = some (.slice U_1 U.ext.length U_c1) ∧ w'.cell? ⟨w4.heap.size + 1, 2, none⟩ = some (.string U.script) ∧ w'.cell? ⟨w4.heap.size + 1, 3, none⟩ = some (.string U.region) ∧ w'.cell? ⟨w4.heap.size + 1, 4, none⟩ = some (.slice U_4 U.vars.length U_c4) ∧ w'.cell? ⟨w4.heap.size + 1, 5, none⟩ = some (.slice U_5 U.exts.length U_c5) ∧ w'.cell? ⟨w4.heap.size + 1, 6, none⟩ = some (.slice U_6 U.priv.length U_c6) ∧ w'.cell? ⟨w4.heap.size + 1, 7, none⟩ = some (.string U.grand)))
    have Y0 := Lib.hid (Below.refl w10.heap.size w10)
    refine start_ (n := 16) (S := fun w' => w'.cell? ⟨w4.heap.size + 1, 0, none⟩ = some (.string U.lang) ∧ w'.cell? ⟨w4.heap.size + 1, 1, none⟩ = some (.slice U_1 U.ext.length U_c1) ∧ w'.cell? ⟨w4.heap.size + 1, 2, none⟩ = some (.string U.script) ∧ w'.cell? ⟨w4.heap.size + 1, 3, none⟩ = some (.string U.region) ∧ w'.cell? ⟨w4.heap.size + 1, 4, none⟩ = some (.slice U_4 U.vars.length U_c4) ∧ w'.cell? ⟨w4.heap.size + 1, 5, none⟩ = some (.slice U_5 U.exts.length U_c5) ∧ w'.cell? ⟨w4.heap.size + 1, 6, none⟩ = some (.slice U_6 U.priv.length U_c6) ∧ w'.cell? ⟨w4.heap.size + 1, 7, none⟩ = some (.string U.grand)) (ds := []) #[false, false, false, false, false, false, false, false, false, false, false, false, false, false, false, false] (by kernel_rfl) rfl rfl (EQ.out _ (below_drew Y0.out)) (fun hHeld => ?_); refine with_tabW gr13_tab gr13_bits (fun HT_ HW_ => ?_)
    refine pu_ (i := 0) (N := some 54) HT_ (bl_ 16 1) ?_
    refine pu_ (i := 1) (N := some 55) HT_ (bl_ 16 3) ?_
    refine pu_ (i := 2) (N := some 56) HT_ (bl_ 16 7) ?_
    refine pu_ (i := 3) (N := some 57) HT_ (bl_ 16 15) ?_
    refine tk_ (i := 4) (N := some 58) HT_ HW_ (bl_ 16 31) hHeld ?_ (hy := by rintro w' ⟨s0, s1, s2, s3, s4, s5, s6, s7⟩; go_simp; with_reducible rfl)
    refine on_ (i := 5) (N := some 59) HT_ (bl_ 16 63) rfl rfl (fun K hK => ?_)
    refine gs_ Tryz.func15 #[.agg #[.string U.lang, .slice U_1 U.ext.length U_c1, .string U.script, .string U.region, .slice U_4 U.vars.length U_c4, .slice U_5 U.exts.length U_c5, .slice U_6 U.priv.length U_c6, .string U.grand]] ?_
    refine (HRI.out _ _ _ _ _ _ _ _ _ (RU10.out.below (below_drew Y0.out))).mono ?_
    rintro e w11 ⟨rfl, hb⟩
    have Y1 := Lib.hid (below_step (below_drew Y0.out) hb)
    clear hb
    refine ⟨_, rfl, ?_⟩
    refine hK.out _ _ (EQ.out _ Y1.out) (fun hHeld => ?_)
    clear hK K
    refine nm_ (some 59) ?_
    refine pu_ (i := 6) (N := some 60) HT_ (bl_ 16 127) ?_
    refine pu_ (i := 7) (N := some 61) HT_ (bl_ 16 255) ?_
    refine pu_ (i := 8) (N := some 62) HT_ (bl_ 16 511) ?_
    refine pu_ (i := 9) (N := some 63) HT_ (bl_ 16 1023) ?_
    refine pu_ (i := 10) (N := some 64) HT_ (bl_ 16 2047) ?_
    refine pu_ (i := 11) (N := some 65) HT_ (bl_ 16 4095) ?_
    refine pu_ (i := 12) (N := some 66) HT_ (bl_ 16 8191) ?_
    refine pu_ (i := 13) (N := some 67) HT_ (bl_ 16 16383) ?_
    refine pu_ (i := 14) (N := some 68) HT_ (bl_ 16 32767) ?_
    refine pu_ (i := 15) (N := some 4) HT_ (bl_ 16 65535) ?_
    refine done_ (done_of HT_.out (by kernel_rfl)) ?_
    go_wp2
    go_ret
    exact ⟨rfl, below_step HB10.out Y1.out⟩
theorem grow_small {B : TG} {l6 : List Int} (h : BaseT B l6) (n : Int) : Small (growT B n) := by
  have e1 := (base_ext h).1
  have v1 := h.vars.2.1
  have x1 := h.exts.1
  have p1 := h.priv.1
  have s1 : ∀ x ∈ B.exts, x.f1.length ≤ 4 := fun x hx => (base_exts h x hx).2.2.1
  have b : Small B := ⟨e1, by omega, by omega, by omega, s1⟩
  unfold growT
  split
  · exact ⟨e1, by show (B.vars ++ _).length ≤ 6; rw [List.length_append]; simp; omega, b.exts, b.priv, s1⟩
  split
  · refine ⟨e1, b.vars, by show (B.exts ++ _).length ≤ 5; rw [List.length_append]; simp; omega, b.priv, fun x hx => ?_⟩
    rcases List.mem_append.1 hx with hx | hx
    · exact s1 x hx
    · rw [List.mem_singleton.1 hx]; decide
  · exact ⟨e1, b.vars, b.exts, by show (B.priv ++ _).length ≤ 4; rw [List.length_append]; simp; omega, s1⟩
theorem Small.few {T : TG} (h : Small T) (t : TxtS T) : FewS T := ⟨by have := h.ext; omega, by have := h.vars; omega, by have := h.exts; omega, by have := h.priv; omega, fun x hx => by have := h.subs x hx; omega, by have := t.grand; omega⟩
theorem grow_txtS {B : TG} (t : TxtS B) (n : Int) : TxtS (growT B n) := by
  unfold growT
  split
  · refine ⟨t.lang, t.ext, t.script, t.region, fun s hs => ?_, t.keys, t.subs, t.priv, t.grand⟩
    rcases List.mem_append.1 hs with hs | hs
    · exact t.vars s hs
    · rw [List.mem_singleton.1 hs]; decide
  split
  · refine ⟨t.lang, t.ext, t.script, t.region, t.vars, fun x hx => ?_, fun x hx => ?_, t.priv, t.grand⟩
    · rcases List.mem_append.1 hx with hx | hx
      · exact t.keys x hx
      · rw [List.mem_singleton.1 hx]; decide
    · rcases List.mem_append.1 hx with hx | hx
      · exact t.subs x hx
      · rw [List.mem_singleton.1 hx]; decide
  · refine ⟨t.lang, t.ext, t.script, t.region, t.vars, t.keys, t.subs, fun s hs => ?_, t.grand⟩
    rcases List.mem_append.1 hs with hs | hs
    · exact t.priv s hs
    · rw [List.mem_singleton.1 hs]; decide
theorem ParseGrows_calls (a0 a1 a2 a3 : Int) (A4 : Option Addr) (c4 : Nat) (l4 : List Int) (A5 : Option Addr) (c5 : Nat) (l5 : List Int) (A6 : Option Addr) (c6 : Nat) (l6 : List Int) (a7 : Int) (how : Int) (w : World) (h4 : IntsC w A4 c4 l4) (h5 : IntsC w A5 c5 l5) (h6 : IntsC w A6 c6 l6) (hG : Given w) :
    Calls Tryz.prog 5 #[.agg #[.int .i64 a0, .int .i64 a1, .int .i64 a2, .int .i64 a3, .slice A4 l4.length c4, .slice A5 l5.length c5, .slice A6 l6.length c6, .int .i64 a7], .int .i64 how] w fun e w' => e = .returned (.bool true) ∧ Below w.heap.size w w' := by
  obtain ⟨B, hB, MD0⟩ := made_calls a0 a1 a2 a3 l4 l5 l6 0
  rw [odd_zero] at MD0
  obtain ⟨z, z0, z3, RC⟩ := rest_calls how 3 (by decide) (by decide)
  have tB : TxtS B := by have := baseT_txtS hB (oddN 0); rwa [odd_zero] at this
  have fB : FewS B := by have := hB.fewS (oddN 0); rwa [odd_zero] at this
  have ht := grow_txtS tB z
  have hm := grow_small hB z
  have hR := grow_right hB z
  obtain ⟨U, hU⟩ : ∃ U, U = growT B z := ⟨_, rfl⟩
  rw [← hU] at ht hm hR
  have hf := hm.few ht
  have hx : (textT U).length ≤ 1300 := hm.text ht
  have hsub : ∀ s ∈ subsT U, s.size ≤ 1000000 := fun s hs => by
    have hs2 : s ∈ subsL U.lang U.ext U.script U.region U.vars U.exts U.priv U.grand := hs
    unfold subsL at hs2
    split at hs2
    · have := ht.sub s hs2; omega
    · obtain ⟨q, hq, rfl⟩ := List.mem_map.1 hs2
      have h1 := sp_small (bl U.grand) [] q (by rw [← split_sp]; exact hq)
      rw [bl_len] at h1
      have := ht.grand
      rw [mk_size]
      simp only [List.length_nil] at h1
      omega
  obtain ⟨k, hk⟩ := (right_ev U hf ht (by omega) hsub).rounds
  rw [hR] at hk
  have hr : parseR (mk (textT U)) = .good U := right_parse hR
  have hz : (mk (textT U)).size ≤ 900000 := by rw [mk_size]; omega
  exact grows (mk (textT U)) a0 a1 a2 a3 A4 c4 l4 A5 c5 l5 A6 c6 l6 a7 how z w h4 h5 h6 hG B U z0 z3 hU fB.vars (by have := fB.exts; omega) fB.priv RC (fun W i4 i5 i6 => MD0 A4 c4 A5 c5 A6 c6 W i4 i5 i6) (fun W A1 c1 A4 c4 A5 c5 A6 c6 h => text_calls h hf ht)
    (fun W A1 c1 A4 c4 A5 c5 A6 c6 h => r6_Right.calls k _ _ _ _ _ _ _ _ _ _ _ _ _ _ _ _ _ W h.1.1 h.1.2 h.2.1.1 h.2.1.2 h.2.2.1.1 h.2.2.1.2 h.2.2.2.1 h.2.2.2.2 hk)
    (fun W hN => Parse_good hr hz W hN)
def w7_ParseGrows.f (k : Nat) (a0 a1 a2 a3 : Int) (l4 l5 l6 : List Int) (a7 how : Int) : Option Bool := some true
theorem w7_ParseGrows.calls (k : Nat) (a0 a1 a2 a3 : Int) (A4 : Option Addr) (c4 : Nat) (l4 : List Int) (A5 : Option Addr) (c5 : Nat) (l5 : List Int) (A6 : Option Addr) (c6 : Nat) (l6 : List Int) (a7 : Int) (how : Int) (r : Bool) (w : World) (h4 : Kd.C (Kd.int .i64) w A4 l4.length l4) (g4 : l4.length ≤ c4) (h5 : Kd.C (Kd.int .i64) w A5 l5.length l5) (g5 : l5.length ≤ c5) (h6 : Kd.C (Kd.int .i64) w A6 l6.length l6) (g6 : l6.length ≤ c6) (hG : Given w) (h : w7_ParseGrows.f k a0 a1 a2 a3 l4 l5 l6 a7 how = some r) :
    Calls Tryz.prog 5 #[.agg #[.int .i64 a0, .int .i64 a1, .int .i64 a2, .int .i64 a3, .slice A4 l4.length c4, .slice A5 l5.length c5, .slice A6 l6.length c6, .int .i64 a7], .int .i64 how] w fun e w' => e = .returned (.bool r) ∧ Below w.heap.size w w' := by
  obtain rfl := Option.some.inj h
  exact ParseGrows_calls a0 a1 a2 a3 A4 c4 l4 A5 c5 l5 A6 c6 l6 a7 how w ⟨h4, g4⟩ ⟨h5, g5⟩ ⟨h6, g6⟩ hG
end Go.Proofs.YtejnfbfikadpdaaGreatDoor.P
