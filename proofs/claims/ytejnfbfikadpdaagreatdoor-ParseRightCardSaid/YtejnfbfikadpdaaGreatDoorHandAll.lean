/- all of parse's reader, walked: what it comes to, told by the pieces alone. -/
import Derived.Test.YtejnfbfikadpdaaGreatDoorHandExts
import Derived.Test.YtejnfbfikadpdaaGreatDoorPx5
import Derived.Test.YtejnfbfikadpdaaGreatDoorPx5
namespace Go.Proofs.YtejnfbfikadpdaaGreatDoor.P
open Go.RowKit Go.Shelf Go.Proofs.YtejnfbfikadpdaaGreatDoorW.PrintWords Go.Proofs.YtejnfbfikadpdaaGreatDoorW.PrintLast Go.Proofs.YtejnfbfikadpdaaGreatDoorW.PrintMore Go.Proofs.YtejnfbfikadpdaaGreatDoor.Iso
set_option linter.unusedVariables false
set_option linter.unusedSimpArgs false
attribute [local go_sem] Oper.semAt_some
abbrev qScr (s : ByteArray) : Bool := Iso.isScr (bl s)
abbrev qReg (s : ByteArray) : Bool := Iso.isReg (bl s)
abbrev qLang (s : ByteArray) : Bool := Iso.isLang (bl s)
abbrev qAny (_ : ByteArray) : Bool := true
theorem so_Script : SoIs 79 qScr := fun s hs W => by
  obtain ⟨k, hk⟩ := (tag_Script_ev s (by omega)).rounds
  exact tag_Script.calls k s _ W hk
theorem so_Region : SoIs 80 qReg := fun s hs W => by
  obtain ⟨k, hk⟩ := (tag_Region_ev s (by omega)).rounds
  exact tag_Region.calls k s _ W hk
theorem so_Any : SoIs 85 qAny := fun s hs W => by
  go_enter Tryz.func85, Tryz.ntmps85
  go_wp2
  go_ret
  exact ⟨rfl, Drawn0.refl _⟩
theorem Rd.put8 {w0 wp W W2 : World} {g : Nat} {ps ps2 : List PieceR} {E : Int} {T : TG} {v1 v4 v5 v6 v : Value} {l : List ByteArray} (h1 : Rd w0 wp W g ps E T v1 v4 v5 v6) (h : Rd w0 wp W2 g ps2 E T v1 v4 v5 v6) (hK : KeepBut W W2 g none) (hr : Kd.R Kd.string 9 W2 W.heap.size (fun _ => True) v l) :
    Rd w0 wp (W2.setCell ⟨g, 8, none⟩ v) g ps2 E { T with priv := l } v1 v4 v5 v := by
  obtain ⟨A, c, hg2, hl, hp⟩ := h.cells
  obtain ⟨cells, hg⟩ := h1.blk
  obtain ⟨o1, o4, o5, o6⟩ := h1.own
  have n : ∀ k, k < W.heap.size → some k ≠ v.ownBlock := fun k hk e => absurd (Kd.R_base hr k e.symm) (by omega)
  have own : OwnT W2 wp.heap.size v1 v4 v5 v T.ext T.vars T.exts l :=
    ⟨Kd.R_mono (Kd.R_keep (Kd.R_bound (Kd.R_types o1 hg (by decide))) hK (fun _ h => h.1.2)) (fun k h => ⟨h.1.1.1, n k h.2.2.1⟩),
      Kd.R_mono (Kd.R_keep (Kd.R_bound (Kd.R_types o4 hg (by decide))) hK (fun _ h => h.1.2)) (fun k h => ⟨h.1.1.1, n k h.2.2.1⟩),
      Kd.S_mono (Kd.S_keep (Kd.S_bound (Kd.S_types o5 hg (by decide))) hK (fun _ h => h.1.2)) (fun k h => ⟨h.1.1.1, h.1.1.2.1, n k h.2.2.1⟩),
      Kd.R_mono (Kd.R_lower (Kd.R_bound hr) h1.size) (fun k h => ⟨fun e => absurd (Kd.R_lt o1 _ e.symm) (by have := h.2.1; omega), fun e => absurd (Kd.R_lt o4 _ e.symm) (by have := h.2.1; omega)⟩)⟩
  exact ⟨h.lo, h.hi, by have := h.size; simpa using this, h.below.setCell (p := ⟨g, 8, none⟩) h.lo _, ⟨A, c, blk_put hg2 8 v rfl, hl, hp⟩, ownT_setR own hg2 8 v, h.keep.set_ 8 _⟩
inductive PRes where
  | good (T : TG)
  | bad (k a : Int) (s : ByteArray)
def oneV (q : ByteArray → Bool) (ps : List PieceR) : ByteArray := if oneB q ps then hereB ps else ⟨#[]⟩
def oneT (q : ByteArray → Bool) (ps : List PieceR) : List PieceR := if oneB q ps then ps.drop 1 else ps
def lgT (ps : List PieceR) : List PieceR := if (hereB ps).size ≤ 3 then extT 3 (ps.drop 1) else ps.drop 1
def lgX (ps : List PieceR) : List ByteArray := if (hereB ps).size ≤ 3 then extL 3 (ps.drop 1) else []
def exR (ps : List PieceR) : List S47 × List PieceR × Nat := extF ps.length [] ps
def finR (E : Int) (T : TG) (ps : List PieceR) : PRes := if ps.isEmpty then .good T else .bad 10 (stopE E ps).1 (stopE E ps).2
def tailR (E : Int) (T : TG) (ps : List PieceR) : PRes :=
  if bl (hereB ps) = [120] then (if (rowL qAny (ps.drop 1)).isEmpty then .bad 10 (stopE E (ps.drop 1)).1 (stopE E (ps.drop 1)).2 else finR E { T with priv := rowL qAny (ps.drop 1) } (rowT qAny (ps.drop 1))) else finR E T ps
def T0 : TG := { lang := ⟨#[]⟩, ext := [], script := ⟨#[]⟩, region := ⟨#[]⟩, vars := [], exts := [], priv := [], grand := ⟨#[]⟩ }
def midR (E : Int) (T : TG) (ps1 : List PieceR) : PRes :=
  let ps2 := oneT qScr ps1
  let ps3 := oneT qReg ps2
  if (varR [] ps3).2.2 then .bad 11 (atOf (varR [] ps3).2.1) ⟨#[118, 97, 114, 105, 97, 110, 116]⟩
  else
    let ps4 := (varR [] ps3).2.1
    if (exR ps4).2.2 = 1 then .bad 11 (atOf (exR ps4).2.1) ⟨#[115, 105, 110, 103, 108, 101, 116, 111, 110]⟩
    else if (exR ps4).2.2 = 2 then .bad 10 (stopE E (exR ps4).2.1).1 (stopE E (exR ps4).2.1).2
    else tailR E { T with script := oneV qScr ps1, region := oneV qReg ps2, vars := (varR [] ps3).1, exts := (exR ps4).1 } (exR ps4).2.1
def allR (E : Int) (ps : List PieceR) : PRes :=
  if bl (hereB ps) = [120] then tailR E T0 ps
  else if oneB qLang ps then midR E { T0 with lang := hereB ps, ext := lgX ps } (lgT ps)
  else .bad 10 (stopE E ps).1 (stopE E ps).2
def AllSaid (w0 wp : World) (g : Nat) (E : Int) (r : PRes) (e : Ending) (W' : World) : Prop :=
  match r with
  | .good T => ∃ u1 u4 u5 u6, e = .returned (.tuple #[]) ∧ Rd w0 wp W' g [] E T u1 u4 u5 u6
  | .bad k a s => (∃ B, e = .panicked [{ v := .iface 77 (.agg #[.iface 93 (.pointer (some ⟨B, 0, none⟩))]), recovered := false }] ∧ FaultAt W' (B, a, s) (.iface 49 (.int .i64 k)) ∧ wp.heap.size ≤ B) ∧ BadK w0 wp g W'
theorem extT_len : ∀ (n : Nat) (ps : List PieceR), (extT n ps).length ≤ ps.length
  | 0, _ => Nat.le_refl _
  | _ + 1, [] => Nat.le_refl _
  | n + 1, p :: t => by
    rw [extT]
    split
    · exact Nat.le_trans (extT_len n t) (by simp)
    · exact Nat.le_refl _
theorem lgT_len (ps : List PieceR) : (lgT ps).length ≤ ps.length := by
  have h : (ps.drop 1).length ≤ ps.length := by rw [List.length_drop]; omega
  unfold lgT
  split
  · exact Nat.le_trans (extT_len 3 _) h
  · exact h
theorem oneT_len (q : ByteArray → Bool) (ps : List PieceR) : (oneT q ps).length ≤ ps.length := by
  unfold oneT
  split
  · rw [List.length_drop]; omega
  · exact Nat.le_refl _
theorem varR_len : ∀ (ps : List PieceR) (acc : List ByteArray), (varR acc ps).2.1.length ≤ ps.length
  | [], _ => Nat.le_refl _
  | p :: t, acc => by
    rw [varR]
    split
    · split
      · exact Nat.le_refl _
      · exact Nat.le_trans (varR_len t _) (by simp)
    · exact Nat.le_refl _
theorem extF_len : ∀ (n : Nat) (ps : List PieceR) (acc : List S47), (extF n acc ps).2.1.length ≤ ps.length
  | 0, _, _ => Nat.le_refl _
  | _ + 1, [], _ => Nat.le_refl _
  | n + 1, p :: t, acc => by
    rw [extF]
    split
    · split
      · exact Nat.le_refl _
      · split
        · exact Nat.le_succ _
        · refine Nat.le_trans (extF_len n _ _) ?_
          have := rowL_len qTwo t
          rw [List.length_cons]; omega
    · exact Nat.le_refl _
theorem ext_status : ∀ (n : Nat) (acc : List S47) (ps : List PieceR), (extF n acc ps).2.2 ≤ 2
  | 0, _, _ => Nat.zero_le _
  | _ + 1, _, [] => Nat.zero_le _
  | n + 1, acc, p :: t => by
    rw [extF]
    split
    · split
      · show 1 ≤ 2; decide
      · split
        · show 2 ≤ 2; decide
        · exact ext_status n _ _
    · show 0 ≤ 2; decide
theorem x_ne {s : ByteArray} (h : ¬ (bl s = [120])) : ¬ (s.toList = ([120] : List UInt8)) ∧ (s.toList == ([120] : List UInt8)) = false ∧ (s.toList != ([120] : List UInt8)) = true := by
  have h1 : ¬ (s.toList = ([120] : List UInt8)) := by rw [bl_toList]; exact h
  exact ⟨h1, beq_eq_false_iff_ne.2 h1, bne_iff_ne.2 h1⟩
theorem x_eq {s : ByteArray} (h : bl s = [120]) : s = ⟨#[120]⟩ := bl_inj h
theorem x_one {q : ByteArray → Bool} {ps : List PieceR} (h : bl (hereB ps) = [120]) : ∃ p t, ps = p :: t := by
  cases ps with
  | nil => exact absurd h (by decide)
  | cons p t => exact ⟨p, t, rfl⟩
section
variable {w0 wp W : World} {g : Nat} {ps : List PieceR} {E : Int} {T : TG} {v1 v4 v5 v6 : Value}
theorem someAny_bad (h : Rd w0 wp W g ps E T v1 v4 v5 v6) (hn : ps.length ≤ 1000000) (he : rowL qAny ps = []) : Calls Tryz.prog 84 #[.pointer (some ⟨g, 0, none⟩), .func (.func 85) #[] #[]] W fun e W' => Bad g W 10 (stopE E ps).1 (stopE E ps).2 e W' ∧ BadK w0 wp g W' :=
  (someAny h so_Any hn).mono fun e w hh => by
    rcases hh with ⟨hne, _⟩ | ⟨_, hb⟩
    · exact absurd he hne
    · rwa [rowT_none he] at hb
theorem someAny_good (h : Rd w0 wp W g ps E T v1 v4 v5 v6) (hn : ps.length ≤ 1000000) (he : ¬ (rowL qAny ps = [])) : Calls Tryz.prog 84 #[.pointer (some ⟨g, 0, none⟩), .func (.func 85) #[] #[]] W fun e W' =>
    ∃ v, e = .returned v ∧ Kd.R Kd.string 9 W' W.heap.size (fun _ => True) v (rowL qAny ps) ∧ Rd w0 wp W' g (rowT qAny ps) E T v1 v4 v5 v6 ∧ KeepBut W W' g none :=
  (someAny h so_Any hn).mono fun e w hh => by
    rcases hh with ⟨_, hv⟩ | ⟨hne, _⟩
    · exact hv
    · exact absurd hne he
theorem language_good (h : Rd w0 wp W g ps E T (.slice none 0 0) v4 v5 v6) (hx : T.ext = []) (hl : oneB qLang ps = true) : Calls Tryz.prog 77 #[.pointer (some ⟨g, 0, none⟩)] W fun e W' => ∃ u, e = .returned (.tuple #[]) ∧ Rd w0 wp W' g (lgT ps) E { T with lang := hereB ps, ext := lgX ps } u v4 v5 v6 :=
  (language_calls h hx).mono fun e w hh => by
    rcases hh with ⟨_, hv⟩ | ⟨hne, _⟩
    · exact hv
    · exact absurd hl (by rw [hne]; decide)
theorem language_bad (h : Rd w0 wp W g ps E T (.slice none 0 0) v4 v5 v6) (hx : T.ext = []) (hl : oneB qLang ps = false) : Calls Tryz.prog 77 #[.pointer (some ⟨g, 0, none⟩)] W fun e W' => Bad g W 10 (stopE E ps).1 (stopE E ps).2 e W' ∧ BadK w0 wp g W' :=
  (language_calls h hx).mono fun e w hh => by
    rcases hh with ⟨hne, _⟩ | ⟨_, hv⟩
    · exact absurd hl (by rw [hne]; decide)
    · exact hv
theorem variants_good (h : Rd w0 wp W g ps E T v1 (.slice none 0 0) v5 v6) (hx : T.vars = []) (hn : ps.length ≤ 1000000) (hl : (varR [] ps).2.2 = false) : Calls Tryz.prog 81 #[.pointer (some ⟨g, 0, none⟩)] W fun e W' => ∃ u, e = .returned (.tuple #[]) ∧ Rd w0 wp W' g (varR [] ps).2.1 E { T with vars := (varR [] ps).1 } v1 u v5 v6 :=
  (variants_calls h hx hn).mono fun e w hh => by
    rcases hh with ⟨_, hv⟩ | ⟨hne, _⟩
    · exact hv
    · exact absurd hl (by rw [hne]; decide)
theorem variants_bad (h : Rd w0 wp W g ps E T v1 (.slice none 0 0) v5 v6) (hx : T.vars = []) (hn : ps.length ≤ 1000000) (hl : (varR [] ps).2.2 = true) : Calls Tryz.prog 81 #[.pointer (some ⟨g, 0, none⟩)] W fun e W' => Bad g W 11 (atOf (varR [] ps).2.1) ⟨#[118, 97, 114, 105, 97, 110, 116]⟩ e W' ∧ BadK w0 wp g W' :=
  (variants_calls h hx hn).mono fun e w hh => by
    rcases hh with ⟨hne, _⟩ | ⟨_, hv⟩
    · exact absurd hl (by rw [hne]; decide)
    · exact hv
theorem exts_good (h : Rd w0 wp W g ps E T v1 v4 (.slice none 0 0) v6) (hx : T.exts = []) (hn : ps.length ≤ 1000000) (hl : (exR ps).2.2 = 0) : Calls Tryz.prog 82 #[.pointer (some ⟨g, 0, none⟩)] W fun e W' => ∃ u, e = .returned (.tuple #[]) ∧ Rd w0 wp W' g (exR ps).2.1 E { T with exts := (exR ps).1 } v1 v4 u v6 :=
  (extensions_calls h hx hn).mono fun e w hh => by
    unfold exR at hl
    rcases hh with ⟨_, hv⟩ | ⟨hne, _⟩ | ⟨hne, _⟩
    · exact hv
    · rw [hl] at hne; cases hne
    · rw [hl] at hne; cases hne
theorem exts_twice (h : Rd w0 wp W g ps E T v1 v4 (.slice none 0 0) v6) (hx : T.exts = []) (hn : ps.length ≤ 1000000) (hl : (exR ps).2.2 = 1) : Calls Tryz.prog 82 #[.pointer (some ⟨g, 0, none⟩)] W fun e W' => Bad g W 11 (atOf (exR ps).2.1) ⟨#[115, 105, 110, 103, 108, 101, 116, 111, 110]⟩ e W' ∧ BadK w0 wp g W' :=
  (extensions_calls h hx hn).mono fun e w hh => by
    unfold exR at hl
    rcases hh with ⟨hne, _⟩ | ⟨_, hv⟩ | ⟨hne, _⟩
    · rw [hl] at hne; cases hne
    · exact hv
    · rw [hl] at hne; cases hne
theorem exts_stop (h : Rd w0 wp W g ps E T v1 v4 (.slice none 0 0) v6) (hx : T.exts = []) (hn : ps.length ≤ 1000000) (hl : (exR ps).2.2 = 2) : Calls Tryz.prog 82 #[.pointer (some ⟨g, 0, none⟩)] W fun e W' => Bad g W 10 (stopE E (exR ps).2.1).1 (stopE E (exR ps).2.1).2 e W' ∧ BadK w0 wp g W' :=
  (extensions_calls h hx hn).mono fun e w hh => by
    unfold exR at hl
    rcases hh with ⟨hne, _⟩ | ⟨hne, _⟩ | ⟨_, hv⟩
    · rw [hl] at hne; cases hne
    · rw [hl] at hne; cases hne
    · exact hv
theorem script_at (h : Rd w0 wp W g ps E T v1 v4 v5 v6) : Calls Tryz.prog 78 #[.pointer (some ⟨g, 0, none⟩), .func (.func 79) #[] #[]] W fun e W' => e = .returned (.string (oneV qScr ps)) ∧ Rd w0 wp W' g (oneT qScr ps) E T v1 v4 v5 v6 ∧ KeepBut W W' g none := oneScript h so_Script
theorem region_at (h : Rd w0 wp W g ps E T v1 v4 v5 v6) : Calls Tryz.prog 78 #[.pointer (some ⟨g, 0, none⟩), .func (.func 80) #[] #[]] W fun e W' => e = .returned (.string (oneV qReg ps)) ∧ Rd w0 wp W' g (oneT qReg ps) E T v1 v4 v5 v6 ∧ KeepBut W W' g none := oneRegion h so_Region
end
set_option maxRecDepth 100000 in
set_option maxHeartbeats 8000000 in
theorem all_x {w0 wp W : World} {g : Nat} {ps : List PieceR} {E : Int} (h : Rd w0 wp W g ps E T0 (.slice none 0 0) (.slice none 0 0) (.slice none 0 0) (.slice none 0 0)) (hn : ps.length ≤ 1000000) (tx : bl (hereB ps) = [120]) :
    Calls Tryz.prog 45 #[.pointer (some ⟨g, 0, none⟩)] W fun e W' => AllSaid w0 wp g E (allR E ps) e W' := by
  have HH := Lib.hid h
  have HNA := Lib.hid hn
  clear h hn
  have HEA := Lib.hid (show allR E ps = tailR E T0 ps by rw [allR, if_pos tx])
  obtain ⟨p, t, hps⟩ := x_one (q := qAny) tx
  have HP := Lib.hid hps
  have HD := Lib.hid (show ps.drop 1 = t by rw [hps]; rfl)
  have HTL := Lib.hid (show t.length ≤ 1000000 by have := HNA.out; rw [hps, List.length_cons] at this; omega)
  have HTX := Lib.hid (x_eq tx)
  by_cases te : rowL qAny t = []
  · have HTE := Lib.hid te
    have HRES := Lib.hid (show allR E ps = .bad 10 (stopE E t).1 (stopE E t).2 by rw [HEA.out, tailR, if_pos tx, HD.out, if_pos (by rw [te]; rfl)])
    clear tx hps te
    go_enter Tryz.func45, Tryz.ntmps45
    go_wp2_with (first | (go_at_call 76; refine (here_calls (by first | exact HH.out | exact HH.out.drewN _)).mono ?_; rw [HTX.out]; rintro e w9 ⟨rfl, ⟨nd, rfl⟩⟩) | (go_at_call 83; refine (take_calls (HH.out.drewN _) HP.out).mono ?_; rw [HTX.out]; rintro e wB ⟨rfl, hRB, hKB⟩; have HB := Lib.hid hRB; have HKB := Lib.hid hKB; clear hRB hKB) | (go_at_call 84; refine (someAny_bad HB.out HTL.out HTE.out).mono ?_; rintro e w8 ⟨⟨B, rfl, hF, hB⟩, hb⟩; have HF := Lib.hid hF; have HBB := Lib.hid hB; have HBW := Lib.hid hb; clear hF hB hb))
    refine ⟨rfl, ?_⟩
    rw [HRES.out]
    exact ⟨⟨B, rfl, HF.out, Nat.le_trans HB.out.size HBB.out⟩, HBW.out⟩
  · have HTE := Lib.hid te
    have HRES := Lib.hid (show allR E ps = finR E { T0 with priv := rowL qAny t } (rowT qAny t) by rw [HEA.out, tailR, if_pos tx, HD.out, if_neg (by rw [List.isEmpty_iff]; exact te)])
    obtain ⟨pv, hpv⟩ : ∃ l, l = rowL qAny t := ⟨_, rfl⟩
    have HPV := Lib.hid hpv
    clear tx hps te hpv
    by_cases tf : rowT qAny t = []
    · have HRE2 := Lib.hid (show allR E ps = .good { T0 with priv := pv } by rw [HRES.out, HPV.out, finR, tf]; rfl)
      have HTF := Lib.hid tf
      clear tf
      go_enter Tryz.func45, Tryz.ntmps45
      go_wp2_with (first | (go_at_call 76; refine (here_calls (by first | exact HH.out | exact HH.out.drewN _)).mono ?_; rw [HTX.out]; rintro e w9 ⟨rfl, ⟨nd, rfl⟩⟩) | (go_at_call 83; refine (take_calls (HH.out.drewN _) HP.out).mono ?_; rw [HTX.out]; rintro e wB ⟨rfl, hRB, hKB⟩; have HB := Lib.hid hRB; have HKB := Lib.hid hKB; clear hRB hKB) | (go_at_call 84; refine (someAny_good HB.out HTL.out HTE.out).mono ?_; rintro e wC ⟨v, rfl, hr, hRC, hKC⟩; have HC := Lib.hid hRC; have HKC := Lib.hid hKC; rw [← HPV.out] at hr; obtain ⟨AV, cV, hv⟩ := Kd.R_slice hr; subst hv; have HRC := Lib.hid hr; obtain ⟨Z1, z2, Z3, -, -⟩ := hRC.cells; rw [HTF.out] at Z3; have zl : World.cell? wC ⟨g, 0, none⟩ = some _ := (blk_cell Z3 0).trans rfl; have z8 : World.cell? wC ⟨g, 8, none⟩ = some _ := (blk_cell Z3 8).trans rfl; have f8 := blk_frozen Z3 8; clear hRC hKC hr Z3))
      go_end0
      rw [HRE2.out]
      exact ⟨_, _, _, _, rfl, by have := Rd.put8 HB.out HC.out HKC.out HRC.out; rwa [HTF.out] at this⟩
    · have HRE2 := Lib.hid (show allR E ps = .bad 10 (stopE E (rowT qAny t)).1 (stopE E (rowT qAny t)).2 by rw [HRES.out, finR, if_neg (by rw [List.isEmpty_iff]; exact tf)])
      obtain ⟨n, hn⟩ : ∃ n, n = (rowT qAny t).length := ⟨_, rfl⟩
      have q0 : (0 : Int) < (n : Int) := by have := List.length_pos_iff.2 tf; omega
      have q1 : decide ((0 : Int) < (n : Int)) = true := decide_eq_true q0
      have HNN := Lib.hid hn
      clear tf hn
      go_enter Tryz.func45, Tryz.ntmps45
      go_wp2_with (first | (go_at_call 76; refine (here_calls (by first | exact HH.out | exact HH.out.drewN _)).mono ?_; rw [HTX.out]; rintro e w9 ⟨rfl, ⟨nd, rfl⟩⟩) | (go_at_call 83; refine (take_calls (HH.out.drewN _) HP.out).mono ?_; rw [HTX.out]; rintro e wB ⟨rfl, hRB, hKB⟩; have HB := Lib.hid hRB; have HKB := Lib.hid hKB; clear hRB hKB) | (go_at_call 84; refine (someAny_good HB.out HTL.out HTE.out).mono ?_; rintro e wC ⟨v, rfl, hr, hRC, hKC⟩; have HC := Lib.hid hRC; have HKC := Lib.hid hKC; rw [← HPV.out] at hr; obtain ⟨AV, cV, hv⟩ := Kd.R_slice hr; subst hv; have HRC := Lib.hid hr; obtain ⟨Z1, z2, Z3, -, -⟩ := hRC.cells; rw [← HNN.out] at Z3; have zl : World.cell? wC ⟨g, 0, none⟩ = some _ := (blk_cell Z3 0).trans rfl; have z8 : World.cell? wC ⟨g, 8, none⟩ = some _ := (blk_cell Z3 8).trans rfl; have f8 := blk_frozen Z3 8; clear hRC hKC hr Z3) | (go_at_call 86; refine (stop_calls (Rd.put8 HB.out HC.out HKC.out HRC.out)).mono ?_; rintro e w8 ⟨⟨B, rfl, hF, hB⟩, hb⟩; have HF := Lib.hid hF; have HBB := Lib.hid hB; have HBW := Lib.hid ((Rd.put8 HB.out HC.out HKC.out HRC.out).badK hb); clear hF hB hb))
      refine ⟨rfl, ?_⟩
      rw [HRE2.out]
      exact ⟨⟨B, rfl, HF.out, Nat.le_trans HC.out.size (by have := HBB.out; simpa using this)⟩, HBW.out⟩
set_option maxRecDepth 100000 in
set_option maxHeartbeats 8000000 in
theorem all_n {w0 wp W : World} {g : Nat} {ps : List PieceR} {E : Int} (h : Rd w0 wp W g ps E T0 (.slice none 0 0) (.slice none 0 0) (.slice none 0 0) (.slice none 0 0)) (hn : ps.length ≤ 1000000) (cx : ¬ (bl (hereB ps) = [120])) :
    Calls Tryz.prog 45 #[.pointer (some ⟨g, 0, none⟩)] W fun e W' => AllSaid w0 wp g E (allR E ps) e W' := by
  have HH := Lib.hid h
  have HN := Lib.hid hn
  clear h hn
  obtain ⟨xn1, xn2, xn3⟩ := x_ne cx
  obtain ⟨s0, hs0⟩ : ∃ s, s = hereB ps := ⟨_, rfl⟩
  have HS0 := Lib.hid hs0
  rw [← hs0] at xn1 xn2 xn3
  by_cases cl : oneB qLang ps = true
  · have HE1 := Lib.hid (show allR E ps = midR E { T0 with lang := hereB ps, ext := lgX ps } (lgT ps) by rw [allR, if_neg cx, if_pos cl])
    have HCL := Lib.hid cl
    clear cx hs0 cl
    obtain ⟨ps1, hps1⟩ : ∃ p, p = lgT ps := ⟨_, rfl⟩
    obtain ⟨T1, hT1⟩ : ∃ t : TG, t = { T0 with lang := hereB ps, ext := lgX ps } := ⟨_, rfl⟩
    have HE2 := Lib.hid (show allR E ps = midR E T1 ps1 by rw [HE1.out, hps1, hT1])
    have HT1 := Lib.hid hT1
    have HPS1 := Lib.hid hps1
    have HN1 := Lib.hid (show ps1.length ≤ 1000000 by rw [hps1]; exact Nat.le_trans (lgT_len ps) HN.out)
    clear hps1 hT1 HE1
    obtain ⟨v1, hv1⟩ : ∃ v, v = oneV qScr ps1 := ⟨_, rfl⟩
    obtain ⟨ps2, hps2⟩ : ∃ p, p = oneT qScr ps1 := ⟨_, rfl⟩
    obtain ⟨v2, hv2⟩ : ∃ v, v = oneV qReg ps2 := ⟨_, rfl⟩
    obtain ⟨ps3, hps3⟩ : ∃ p, p = oneT qReg ps2 := ⟨_, rfl⟩
    obtain ⟨T2, hT2⟩ : ∃ t : TG, t = { T1 with script := v1 } := ⟨_, rfl⟩
    obtain ⟨T3, hT3⟩ : ∃ t : TG, t = { T2 with region := v2 } := ⟨_, rfl⟩
    have HV1 := Lib.hid hv1
    have HV2 := Lib.hid hv2
    have HPS2 := Lib.hid hps2
    have HPS3 := Lib.hid hps3
    have HT2 := Lib.hid hT2
    have HT3 := Lib.hid hT3
    have HN3 := Lib.hid (show ps3.length ≤ 1000000 by rw [hps3, hps2]; exact Nat.le_trans (oneT_len _ _) (Nat.le_trans (oneT_len _ _) HN1.out))
    have HQ3 := Lib.hid (show T3.vars = [] by rw [hT3, hT2, HT1.out]; rfl)
    clear hv1 hv2 hps2 hps3 hT2 hT3
    by_cases cv : (varR [] ps3).2.2 = true
    · have HVB := Lib.hid cv
      have HRES := Lib.hid (show allR E ps = .bad 11 (atOf (varR [] ps3).2.1) ⟨#[118, 97, 114, 105, 97, 110, 116]⟩ by rw [HE2.out, midR]; dsimp only; rw [← HPS2.out, ← HPS3.out, if_pos cv])
      clear cv
      go_enter Tryz.func45, Tryz.ntmps45
      go_wp2_with (first | (go_at_call 76; refine (here_calls HH.out).mono ?_; rw [← HS0.out]; rintro e w9 ⟨rfl, ⟨nd0, rfl⟩⟩) | (go_at_call 77; refine (language_good (HH.out.drewN _) rfl HCL.out).mono ?_; rintro e w1 ⟨u1, rfl, hR⟩; have HR1 := Lib.hid (show Rd w0 wp w1 g ps1 E T1 u1 (.slice none 0 0) (.slice none 0 0) (.slice none 0 0) by rw [HT1.out, HPS1.out]; exact hR); clear hR) | (go_at_call 78; refine (region_at HR2.out).mono ?_; rw [← HV2.out, ← HPS3.out]; rintro e w3 ⟨rfl, hR, hK⟩; obtain ⟨Z1, z2, Z3, -, -⟩ := hR.cells; have zz5 : World.cell? w3 ⟨g, 5, none⟩ = some _ := (blk_cell Z3 5).trans rfl; have ff5 := blk_frozen Z3 5; have HR3 := Lib.hid (hR.putS 5 (.string v2) T3 (by rw [HT3.out]) (by rw [HT3.out]) (by rw [HT3.out]) (by rw [HT3.out]) (fun _ _ => by rw [HT3.out]; rfl)); clear hR hK Z3) | (go_at_call 78; refine (script_at HR1.out).mono ?_; rw [← HV1.out, ← HPS2.out]; rintro e w2 ⟨rfl, hR, hK⟩; obtain ⟨Z1, z2, Z3, -, -⟩ := hR.cells; have zz4 : World.cell? w2 ⟨g, 4, none⟩ = some _ := (blk_cell Z3 4).trans rfl; have ff4 := blk_frozen Z3 4; have HR2 := Lib.hid (hR.putS 4 (.string v1) T2 (by rw [HT2.out]) (by rw [HT2.out]) (by rw [HT2.out]) (by rw [HT2.out]) (fun _ _ => by rw [HT2.out]; rfl)); clear hR hK Z3) | (go_at_call 81; refine (variants_bad HR3.out HQ3.out HN3.out HVB.out).mono ?_; rintro e w8 ⟨⟨B, rfl, hF, hB⟩, hb⟩; have HF := Lib.hid hF; have HBB := Lib.hid hB; have HBW := Lib.hid hb; clear hF hB hb))
      refine ⟨rfl, ?_⟩
      rw [HRES.out]
      exact ⟨⟨B, rfl, HF.out, Nat.le_trans HR3.out.size HBB.out⟩, HBW.out⟩
    · have cvf : (varR [] ps3).2.2 = false := by simpa using cv
      have HVG := Lib.hid cvf
      obtain ⟨ps4, hps4⟩ : ∃ p, p = (varR [] ps3).2.1 := ⟨_, rfl⟩
      obtain ⟨T4, hT4⟩ : ∃ t : TG, t = { T3 with vars := (varR [] ps3).1 } := ⟨_, rfl⟩
      obtain ⟨ps5, hps5⟩ : ∃ p, p = (exR ps4).2.1 := ⟨_, rfl⟩
      obtain ⟨T5, hT5⟩ : ∃ t : TG, t = { T4 with exts := (exR ps4).1 } := ⟨_, rfl⟩
      have HPS4 := Lib.hid hps4
      have HT4 := Lib.hid hT4
      have HPS5 := Lib.hid hps5
      have HT5 := Lib.hid hT5
      have HN4 := Lib.hid (show ps4.length ≤ 1000000 by rw [hps4]; exact Nat.le_trans (varR_len _ _) HN3.out)
      have HNA := Lib.hid (show ps5.length ≤ 1000000 by rw [hps5]; exact Nat.le_trans (extF_len _ _ _) HN4.out)
      have HQ4 := Lib.hid (show T4.exts = [] by rw [hT4, HT3.out, HT2.out, HT1.out]; rfl)
      have HE3 := Lib.hid (show allR E ps = if (exR ps4).2.2 = 1 then .bad 11 (atOf (exR ps4).2.1) ⟨#[115, 105, 110, 103, 108, 101, 116, 111, 110]⟩ else if (exR ps4).2.2 = 2 then .bad 10 (stopE E (exR ps4).2.1).1 (stopE E (exR ps4).2.1).2 else tailR E T5 ps5 by
        rw [HE2.out, midR]; dsimp only; rw [← HPS2.out, ← HPS3.out, if_neg cv, ← hps4, hps5, hT5, hT4, HT3.out, HT2.out, HV1.out, HV2.out])
      clear cv cvf hps4 hT4 hps5 hT5
      by_cases c1 : (exR ps4).2.2 = 1
      · have HC1 := Lib.hid c1
        have HRES := Lib.hid (show allR E ps = .bad 11 (atOf (exR ps4).2.1) ⟨#[115, 105, 110, 103, 108, 101, 116, 111, 110]⟩ by rw [HE3.out, if_pos c1])
        clear c1
        go_enter Tryz.func45, Tryz.ntmps45
        go_wp2_with (first | (go_at_call 76; refine (here_calls HH.out).mono ?_; rw [← HS0.out]; rintro e w9 ⟨rfl, ⟨nd0, rfl⟩⟩) | (go_at_call 77; refine (language_good (HH.out.drewN _) rfl HCL.out).mono ?_; rintro e w1 ⟨u1, rfl, hR⟩; have HR1 := Lib.hid (show Rd w0 wp w1 g ps1 E T1 u1 (.slice none 0 0) (.slice none 0 0) (.slice none 0 0) by rw [HT1.out, HPS1.out]; exact hR); clear hR) | (go_at_call 78; refine (region_at HR2.out).mono ?_; rw [← HV2.out, ← HPS3.out]; rintro e w3 ⟨rfl, hR, hK⟩; obtain ⟨Z1, z2, Z3, -, -⟩ := hR.cells; have zz5 : World.cell? w3 ⟨g, 5, none⟩ = some _ := (blk_cell Z3 5).trans rfl; have ff5 := blk_frozen Z3 5; have HR3 := Lib.hid (hR.putS 5 (.string v2) T3 (by rw [HT3.out]) (by rw [HT3.out]) (by rw [HT3.out]) (by rw [HT3.out]) (fun _ _ => by rw [HT3.out]; rfl)); clear hR hK Z3) | (go_at_call 78; refine (script_at HR1.out).mono ?_; rw [← HV1.out, ← HPS2.out]; rintro e w2 ⟨rfl, hR, hK⟩; obtain ⟨Z1, z2, Z3, -, -⟩ := hR.cells; have zz4 : World.cell? w2 ⟨g, 4, none⟩ = some _ := (blk_cell Z3 4).trans rfl; have ff4 := blk_frozen Z3 4; have HR2 := Lib.hid (hR.putS 4 (.string v1) T2 (by rw [HT2.out]) (by rw [HT2.out]) (by rw [HT2.out]) (by rw [HT2.out]) (fun _ _ => by rw [HT2.out]; rfl)); clear hR hK Z3) | (go_at_call 81; refine (variants_good HR3.out HQ3.out HN3.out HVG.out).mono ?_; rintro e w4 ⟨u4, rfl, hR⟩; have HR4 := Lib.hid (show Rd w0 wp w4 g ps4 E T4 u1 u4 (.slice none 0 0) (.slice none 0 0) by rw [HT4.out, HPS4.out]; exact hR); clear hR) | (go_at_call 82; refine (exts_twice HR4.out HQ4.out HN4.out HC1.out).mono ?_; rintro e w8 ⟨⟨B, rfl, hF, hB⟩, hb⟩; have HF := Lib.hid hF; have HBB := Lib.hid hB; have HBW := Lib.hid hb; clear hF hB hb))
        refine ⟨rfl, ?_⟩
        rw [HRES.out]
        exact ⟨⟨B, rfl, HF.out, Nat.le_trans HR4.out.size HBB.out⟩, HBW.out⟩
      · by_cases c2 : (exR ps4).2.2 = 2
        · have HC2 := Lib.hid c2
          have HRES := Lib.hid (show allR E ps = .bad 10 (stopE E (exR ps4).2.1).1 (stopE E (exR ps4).2.1).2 by rw [HE3.out, if_neg c1, if_pos c2])
          clear c1 c2
          go_enter Tryz.func45, Tryz.ntmps45
          go_wp2_with (first | (go_at_call 76; refine (here_calls HH.out).mono ?_; rw [← HS0.out]; rintro e w9 ⟨rfl, ⟨nd0, rfl⟩⟩) | (go_at_call 77; refine (language_good (HH.out.drewN _) rfl HCL.out).mono ?_; rintro e w1 ⟨u1, rfl, hR⟩; have HR1 := Lib.hid (show Rd w0 wp w1 g ps1 E T1 u1 (.slice none 0 0) (.slice none 0 0) (.slice none 0 0) by rw [HT1.out, HPS1.out]; exact hR); clear hR) | (go_at_call 78; refine (region_at HR2.out).mono ?_; rw [← HV2.out, ← HPS3.out]; rintro e w3 ⟨rfl, hR, hK⟩; obtain ⟨Z1, z2, Z3, -, -⟩ := hR.cells; have zz5 : World.cell? w3 ⟨g, 5, none⟩ = some _ := (blk_cell Z3 5).trans rfl; have ff5 := blk_frozen Z3 5; have HR3 := Lib.hid (hR.putS 5 (.string v2) T3 (by rw [HT3.out]) (by rw [HT3.out]) (by rw [HT3.out]) (by rw [HT3.out]) (fun _ _ => by rw [HT3.out]; rfl)); clear hR hK Z3) | (go_at_call 78; refine (script_at HR1.out).mono ?_; rw [← HV1.out, ← HPS2.out]; rintro e w2 ⟨rfl, hR, hK⟩; obtain ⟨Z1, z2, Z3, -, -⟩ := hR.cells; have zz4 : World.cell? w2 ⟨g, 4, none⟩ = some _ := (blk_cell Z3 4).trans rfl; have ff4 := blk_frozen Z3 4; have HR2 := Lib.hid (hR.putS 4 (.string v1) T2 (by rw [HT2.out]) (by rw [HT2.out]) (by rw [HT2.out]) (by rw [HT2.out]) (fun _ _ => by rw [HT2.out]; rfl)); clear hR hK Z3) | (go_at_call 81; refine (variants_good HR3.out HQ3.out HN3.out HVG.out).mono ?_; rintro e w4 ⟨u4, rfl, hR⟩; have HR4 := Lib.hid (show Rd w0 wp w4 g ps4 E T4 u1 u4 (.slice none 0 0) (.slice none 0 0) by rw [HT4.out, HPS4.out]; exact hR); clear hR) | (go_at_call 82; refine (exts_stop HR4.out HQ4.out HN4.out HC2.out).mono ?_; rintro e w8 ⟨⟨B, rfl, hF, hB⟩, hb⟩; have HF := Lib.hid hF; have HBB := Lib.hid hB; have HBW := Lib.hid hb; clear hF hB hb))
          refine ⟨rfl, ?_⟩
          rw [HRES.out]
          exact ⟨⟨B, rfl, HF.out, Nat.le_trans HR4.out.size HBB.out⟩, HBW.out⟩
        · have HEA := Lib.hid (show allR E ps = tailR E T5 ps5 by rw [HE3.out, if_neg c1, if_neg c2])
          have HEG := Lib.hid (show (exR ps4).2.2 = 0 from by have := ext_status ps4.length [] ps4; unfold exR at c1 c2 ⊢; omega)
          clear c1 c2 HE3 HE2
          by_cases tx : bl (hereB ps5) = [120]
          · obtain ⟨p, t, hps⟩ := x_one (q := qAny) tx
            have HP := Lib.hid hps
            have HD := Lib.hid (show ps5.drop 1 = t by rw [hps]; rfl)
            have HTL := Lib.hid (show t.length ≤ 1000000 by have := HNA.out; rw [hps, List.length_cons] at this; omega)
            have HTX := Lib.hid (x_eq tx)
            by_cases te : rowL qAny t = []
            · have HTE := Lib.hid te
              have HRES := Lib.hid (show allR E ps = .bad 10 (stopE E t).1 (stopE E t).2 by rw [HEA.out, tailR, if_pos tx, HD.out, if_pos (by rw [te]; rfl)])
              clear tx hps te
              go_enter Tryz.func45, Tryz.ntmps45
              go_wp2_with (first | (go_at_call 77; refine (language_good (HH.out.drewN _) rfl HCL.out).mono ?_; rintro e w1 ⟨u1, rfl, hR⟩; have HR1 := Lib.hid (show Rd w0 wp w1 g ps1 E T1 u1 (.slice none 0 0) (.slice none 0 0) (.slice none 0 0) by rw [HT1.out, HPS1.out]; exact hR); clear hR) | (go_at_call 78; refine (region_at HR2.out).mono ?_; rw [← HV2.out, ← HPS3.out]; rintro e w3 ⟨rfl, hR, hK⟩; obtain ⟨Z1, z2, Z3, -, -⟩ := hR.cells; have zz5 : World.cell? w3 ⟨g, 5, none⟩ = some _ := (blk_cell Z3 5).trans rfl; have ff5 := blk_frozen Z3 5; have HR3 := Lib.hid (hR.putS 5 (.string v2) T3 (by rw [HT3.out]) (by rw [HT3.out]) (by rw [HT3.out]) (by rw [HT3.out]) (fun _ _ => by rw [HT3.out]; rfl)); clear hR hK Z3) | (go_at_call 78; refine (script_at HR1.out).mono ?_; rw [← HV1.out, ← HPS2.out]; rintro e w2 ⟨rfl, hR, hK⟩; obtain ⟨Z1, z2, Z3, -, -⟩ := hR.cells; have zz4 : World.cell? w2 ⟨g, 4, none⟩ = some _ := (blk_cell Z3 4).trans rfl; have ff4 := blk_frozen Z3 4; have HR2 := Lib.hid (hR.putS 4 (.string v1) T2 (by rw [HT2.out]) (by rw [HT2.out]) (by rw [HT2.out]) (by rw [HT2.out]) (fun _ _ => by rw [HT2.out]; rfl)); clear hR hK Z3) | (go_at_call 81; refine (variants_good HR3.out HQ3.out HN3.out HVG.out).mono ?_; rintro e w4 ⟨u4, rfl, hR⟩; have HR4 := Lib.hid (show Rd w0 wp w4 g ps4 E T4 u1 u4 (.slice none 0 0) (.slice none 0 0) by rw [HT4.out, HPS4.out]; exact hR); clear hR) | (go_at_call 82; refine (exts_good HR4.out HQ4.out HN4.out HEG.out).mono ?_; rintro e w5 ⟨u5, rfl, hR⟩; have HA := Lib.hid (show Rd w0 wp w5 g ps5 E T5 u1 u4 u5 (.slice none 0 0) by rw [HT5.out, HPS5.out]; exact hR); clear hR) | (go_at_call 76; refine (here_calls HA.out).mono ?_; rw [HTX.out]; rintro e w9 ⟨rfl, ⟨nd, rfl⟩⟩) | (go_at_call 76; refine (here_calls HH.out).mono ?_; rw [← HS0.out]; rintro e w9 ⟨rfl, ⟨nd0, rfl⟩⟩) | (go_at_call 83; refine (take_calls (HA.out.drewN _) HP.out).mono ?_; rw [HTX.out]; rintro e wB ⟨rfl, hRB, hKB⟩; have HB := Lib.hid hRB; have HKB := Lib.hid hKB; clear hRB hKB) | (go_at_call 84; refine (someAny_bad HB.out HTL.out HTE.out).mono ?_; rintro e w8 ⟨⟨B, rfl, hF, hB⟩, hb⟩; have HF := Lib.hid hF; have HBB := Lib.hid hB; have HBW := Lib.hid hb; clear hF hB hb))
              refine ⟨rfl, ?_⟩
              rw [HRES.out]
              exact ⟨⟨B, rfl, HF.out, Nat.le_trans HB.out.size HBB.out⟩, HBW.out⟩
            · have HTE := Lib.hid te
              have HRES := Lib.hid (show allR E ps = finR E { T5 with priv := rowL qAny t } (rowT qAny t) by rw [HEA.out, tailR, if_pos tx, HD.out, if_neg (by rw [List.isEmpty_iff]; exact te)])
              obtain ⟨pv, hpv⟩ : ∃ l, l = rowL qAny t := ⟨_, rfl⟩
              have HPV := Lib.hid hpv
              clear tx hps te hpv
              by_cases tf : rowT qAny t = []
              · have HRE2 := Lib.hid (show allR E ps = .good { T5 with priv := pv } by rw [HRES.out, HPV.out, finR, tf]; rfl)
                have HTF := Lib.hid tf
                clear tf
                go_enter Tryz.func45, Tryz.ntmps45
                go_wp2_with (first | (go_at_call 77; refine (language_good (HH.out.drewN _) rfl HCL.out).mono ?_; rintro e w1 ⟨u1, rfl, hR⟩; have HR1 := Lib.hid (show Rd w0 wp w1 g ps1 E T1 u1 (.slice none 0 0) (.slice none 0 0) (.slice none 0 0) by rw [HT1.out, HPS1.out]; exact hR); clear hR) | (go_at_call 78; refine (region_at HR2.out).mono ?_; rw [← HV2.out, ← HPS3.out]; rintro e w3 ⟨rfl, hR, hK⟩; obtain ⟨Z1, z2, Z3, -, -⟩ := hR.cells; have zz5 : World.cell? w3 ⟨g, 5, none⟩ = some _ := (blk_cell Z3 5).trans rfl; have ff5 := blk_frozen Z3 5; have HR3 := Lib.hid (hR.putS 5 (.string v2) T3 (by rw [HT3.out]) (by rw [HT3.out]) (by rw [HT3.out]) (by rw [HT3.out]) (fun _ _ => by rw [HT3.out]; rfl)); clear hR hK Z3) | (go_at_call 78; refine (script_at HR1.out).mono ?_; rw [← HV1.out, ← HPS2.out]; rintro e w2 ⟨rfl, hR, hK⟩; obtain ⟨Z1, z2, Z3, -, -⟩ := hR.cells; have zz4 : World.cell? w2 ⟨g, 4, none⟩ = some _ := (blk_cell Z3 4).trans rfl; have ff4 := blk_frozen Z3 4; have HR2 := Lib.hid (hR.putS 4 (.string v1) T2 (by rw [HT2.out]) (by rw [HT2.out]) (by rw [HT2.out]) (by rw [HT2.out]) (fun _ _ => by rw [HT2.out]; rfl)); clear hR hK Z3) | (go_at_call 81; refine (variants_good HR3.out HQ3.out HN3.out HVG.out).mono ?_; rintro e w4 ⟨u4, rfl, hR⟩; have HR4 := Lib.hid (show Rd w0 wp w4 g ps4 E T4 u1 u4 (.slice none 0 0) (.slice none 0 0) by rw [HT4.out, HPS4.out]; exact hR); clear hR) | (go_at_call 82; refine (exts_good HR4.out HQ4.out HN4.out HEG.out).mono ?_; rintro e w5 ⟨u5, rfl, hR⟩; have HA := Lib.hid (show Rd w0 wp w5 g ps5 E T5 u1 u4 u5 (.slice none 0 0) by rw [HT5.out, HPS5.out]; exact hR); clear hR) | (go_at_call 76; refine (here_calls HA.out).mono ?_; rw [HTX.out]; rintro e w9 ⟨rfl, ⟨nd, rfl⟩⟩) | (go_at_call 76; refine (here_calls HH.out).mono ?_; rw [← HS0.out]; rintro e w9 ⟨rfl, ⟨nd0, rfl⟩⟩) | (go_at_call 83; refine (take_calls (HA.out.drewN _) HP.out).mono ?_; rw [HTX.out]; rintro e wB ⟨rfl, hRB, hKB⟩; have HB := Lib.hid hRB; have HKB := Lib.hid hKB; clear hRB hKB) | (go_at_call 84; refine (someAny_good HB.out HTL.out HTE.out).mono ?_; rintro e wC ⟨v, rfl, hr, hRC, hKC⟩; have HC := Lib.hid hRC; have HKC := Lib.hid hKC; rw [← HPV.out] at hr; obtain ⟨AV, cV, hv⟩ := Kd.R_slice hr; subst hv; have HRC := Lib.hid hr; obtain ⟨Z1, z2, Z3, -, -⟩ := hRC.cells; rw [HTF.out] at Z3; have zl : World.cell? wC ⟨g, 0, none⟩ = some _ := (blk_cell Z3 0).trans rfl; have z8 : World.cell? wC ⟨g, 8, none⟩ = some _ := (blk_cell Z3 8).trans rfl; have f8 := blk_frozen Z3 8; clear hRC hKC hr Z3))
                go_end0
                rw [HRE2.out]
                exact ⟨_, _, _, _, rfl, by have := Rd.put8 HB.out HC.out HKC.out HRC.out; rwa [HTF.out] at this⟩
              · have HRE2 := Lib.hid (show allR E ps = .bad 10 (stopE E (rowT qAny t)).1 (stopE E (rowT qAny t)).2 by rw [HRES.out, finR, if_neg (by rw [List.isEmpty_iff]; exact tf)])
                obtain ⟨n, hn⟩ : ∃ n, n = (rowT qAny t).length := ⟨_, rfl⟩
                have q0 : (0 : Int) < (n : Int) := by have := List.length_pos_iff.2 tf; omega
                have q1 : decide ((0 : Int) < (n : Int)) = true := decide_eq_true q0
                have HNN := Lib.hid hn
                clear tf hn
                go_enter Tryz.func45, Tryz.ntmps45
                go_wp2_with (first | (go_at_call 77; refine (language_good (HH.out.drewN _) rfl HCL.out).mono ?_; rintro e w1 ⟨u1, rfl, hR⟩; have HR1 := Lib.hid (show Rd w0 wp w1 g ps1 E T1 u1 (.slice none 0 0) (.slice none 0 0) (.slice none 0 0) by rw [HT1.out, HPS1.out]; exact hR); clear hR) | (go_at_call 78; refine (region_at HR2.out).mono ?_; rw [← HV2.out, ← HPS3.out]; rintro e w3 ⟨rfl, hR, hK⟩; obtain ⟨Z1, z2, Z3, -, -⟩ := hR.cells; have zz5 : World.cell? w3 ⟨g, 5, none⟩ = some _ := (blk_cell Z3 5).trans rfl; have ff5 := blk_frozen Z3 5; have HR3 := Lib.hid (hR.putS 5 (.string v2) T3 (by rw [HT3.out]) (by rw [HT3.out]) (by rw [HT3.out]) (by rw [HT3.out]) (fun _ _ => by rw [HT3.out]; rfl)); clear hR hK Z3) | (go_at_call 78; refine (script_at HR1.out).mono ?_; rw [← HV1.out, ← HPS2.out]; rintro e w2 ⟨rfl, hR, hK⟩; obtain ⟨Z1, z2, Z3, -, -⟩ := hR.cells; have zz4 : World.cell? w2 ⟨g, 4, none⟩ = some _ := (blk_cell Z3 4).trans rfl; have ff4 := blk_frozen Z3 4; have HR2 := Lib.hid (hR.putS 4 (.string v1) T2 (by rw [HT2.out]) (by rw [HT2.out]) (by rw [HT2.out]) (by rw [HT2.out]) (fun _ _ => by rw [HT2.out]; rfl)); clear hR hK Z3) | (go_at_call 81; refine (variants_good HR3.out HQ3.out HN3.out HVG.out).mono ?_; rintro e w4 ⟨u4, rfl, hR⟩; have HR4 := Lib.hid (show Rd w0 wp w4 g ps4 E T4 u1 u4 (.slice none 0 0) (.slice none 0 0) by rw [HT4.out, HPS4.out]; exact hR); clear hR) | (go_at_call 82; refine (exts_good HR4.out HQ4.out HN4.out HEG.out).mono ?_; rintro e w5 ⟨u5, rfl, hR⟩; have HA := Lib.hid (show Rd w0 wp w5 g ps5 E T5 u1 u4 u5 (.slice none 0 0) by rw [HT5.out, HPS5.out]; exact hR); clear hR) | (go_at_call 76; refine (here_calls HA.out).mono ?_; rw [HTX.out]; rintro e w9 ⟨rfl, ⟨nd, rfl⟩⟩) | (go_at_call 76; refine (here_calls HH.out).mono ?_; rw [← HS0.out]; rintro e w9 ⟨rfl, ⟨nd0, rfl⟩⟩) | (go_at_call 83; refine (take_calls (HA.out.drewN _) HP.out).mono ?_; rw [HTX.out]; rintro e wB ⟨rfl, hRB, hKB⟩; have HB := Lib.hid hRB; have HKB := Lib.hid hKB; clear hRB hKB) | (go_at_call 84; refine (someAny_good HB.out HTL.out HTE.out).mono ?_; rintro e wC ⟨v, rfl, hr, hRC, hKC⟩; have HC := Lib.hid hRC; have HKC := Lib.hid hKC; rw [← HPV.out] at hr; obtain ⟨AV, cV, hv⟩ := Kd.R_slice hr; subst hv; have HRC := Lib.hid hr; obtain ⟨Z1, z2, Z3, -, -⟩ := hRC.cells; rw [← HNN.out] at Z3; have zl : World.cell? wC ⟨g, 0, none⟩ = some _ := (blk_cell Z3 0).trans rfl; have z8 : World.cell? wC ⟨g, 8, none⟩ = some _ := (blk_cell Z3 8).trans rfl; have f8 := blk_frozen Z3 8; clear hRC hKC hr Z3) | (go_at_call 86; refine (stop_calls (Rd.put8 HB.out HC.out HKC.out HRC.out)).mono ?_; rintro e w8 ⟨⟨B, rfl, hF, hB⟩, hb⟩; have HF := Lib.hid hF; have HBB := Lib.hid hB; have HBW := Lib.hid ((Rd.put8 HB.out HC.out HKC.out HRC.out).badK hb); clear hF hB hb))
                refine ⟨rfl, ?_⟩
                rw [HRE2.out]
                exact ⟨⟨B, rfl, HF.out, Nat.le_trans HC.out.size (by have := HBB.out; simpa using this)⟩, HBW.out⟩
          · obtain ⟨tn1, tn2, tn3⟩ := x_ne tx
            obtain ⟨s9, hs9⟩ : ∃ s, s = hereB ps5 := ⟨_, rfl⟩
            have HS9 := Lib.hid hs9
            rw [← hs9] at tn1 tn2 tn3
            have HRES := Lib.hid (show allR E ps = finR E T5 ps5 by rw [HEA.out, tailR, if_neg tx])
            clear tx hs9
            by_cases tf : ps5 = []
            · have HRE2 := Lib.hid (show allR E ps = .good T5 by rw [HRES.out, finR, tf]; rfl)
              have HTF := Lib.hid tf
              clear tf
              go_enter Tryz.func45, Tryz.ntmps45
              go_wp2_with (first | (go_at_call 77; refine (language_good (HH.out.drewN _) rfl HCL.out).mono ?_; rintro e w1 ⟨u1, rfl, hR⟩; have HR1 := Lib.hid (show Rd w0 wp w1 g ps1 E T1 u1 (.slice none 0 0) (.slice none 0 0) (.slice none 0 0) by rw [HT1.out, HPS1.out]; exact hR); clear hR) | (go_at_call 78; refine (region_at HR2.out).mono ?_; rw [← HV2.out, ← HPS3.out]; rintro e w3 ⟨rfl, hR, hK⟩; obtain ⟨Z1, z2, Z3, -, -⟩ := hR.cells; have zz5 : World.cell? w3 ⟨g, 5, none⟩ = some _ := (blk_cell Z3 5).trans rfl; have ff5 := blk_frozen Z3 5; have HR3 := Lib.hid (hR.putS 5 (.string v2) T3 (by rw [HT3.out]) (by rw [HT3.out]) (by rw [HT3.out]) (by rw [HT3.out]) (fun _ _ => by rw [HT3.out]; rfl)); clear hR hK Z3) | (go_at_call 78; refine (script_at HR1.out).mono ?_; rw [← HV1.out, ← HPS2.out]; rintro e w2 ⟨rfl, hR, hK⟩; obtain ⟨Z1, z2, Z3, -, -⟩ := hR.cells; have zz4 : World.cell? w2 ⟨g, 4, none⟩ = some _ := (blk_cell Z3 4).trans rfl; have ff4 := blk_frozen Z3 4; have HR2 := Lib.hid (hR.putS 4 (.string v1) T2 (by rw [HT2.out]) (by rw [HT2.out]) (by rw [HT2.out]) (by rw [HT2.out]) (fun _ _ => by rw [HT2.out]; rfl)); clear hR hK Z3) | (go_at_call 81; refine (variants_good HR3.out HQ3.out HN3.out HVG.out).mono ?_; rintro e w4 ⟨u4, rfl, hR⟩; have HR4 := Lib.hid (show Rd w0 wp w4 g ps4 E T4 u1 u4 (.slice none 0 0) (.slice none 0 0) by rw [HT4.out, HPS4.out]; exact hR); clear hR) | (go_at_call 82; refine (exts_good HR4.out HQ4.out HN4.out HEG.out).mono ?_; rintro e w5 ⟨u5, rfl, hR⟩; have HA := Lib.hid (show Rd w0 wp w5 g ps5 E T5 u1 u4 u5 (.slice none 0 0) by rw [HT5.out, HPS5.out]; exact hR); obtain ⟨Z1, z2, Z3, -, -⟩ := HA.out.cells; rw [HTF.out] at Z3; have zl : World.cell? w5 ⟨g, 0, none⟩ = some _ := (blk_cell Z3 0).trans rfl; clear hR Z3) | (go_at_call 76; refine (here_calls HA.out).mono ?_; rw [← HS9.out]; rintro e w9 ⟨rfl, ⟨nd, rfl⟩⟩) | (go_at_call 76; refine (here_calls HH.out).mono ?_; rw [← HS0.out]; rintro e w9 ⟨rfl, ⟨nd0, rfl⟩⟩))
              go_end0
              rw [HRE2.out]
              exact ⟨_, _, _, _, rfl, by have := HA.out.drewN nd; rwa [HTF.out] at this⟩
            · have HRE2 := Lib.hid (show allR E ps = .bad 10 (stopE E ps5).1 (stopE E ps5).2 by rw [HRES.out, finR, if_neg (by rw [List.isEmpty_iff]; exact tf)])
              obtain ⟨n, hn⟩ : ∃ n, n = ps5.length := ⟨_, rfl⟩
              have q0 : (0 : Int) < (n : Int) := by have := List.length_pos_iff.2 tf; omega
              have q1 : decide ((0 : Int) < (n : Int)) = true := decide_eq_true q0
              have HNN := Lib.hid hn
              clear tf hn
              go_enter Tryz.func45, Tryz.ntmps45
              go_wp2_with (first | (go_at_call 77; refine (language_good (HH.out.drewN _) rfl HCL.out).mono ?_; rintro e w1 ⟨u1, rfl, hR⟩; have HR1 := Lib.hid (show Rd w0 wp w1 g ps1 E T1 u1 (.slice none 0 0) (.slice none 0 0) (.slice none 0 0) by rw [HT1.out, HPS1.out]; exact hR); clear hR) | (go_at_call 78; refine (region_at HR2.out).mono ?_; rw [← HV2.out, ← HPS3.out]; rintro e w3 ⟨rfl, hR, hK⟩; obtain ⟨Z1, z2, Z3, -, -⟩ := hR.cells; have zz5 : World.cell? w3 ⟨g, 5, none⟩ = some _ := (blk_cell Z3 5).trans rfl; have ff5 := blk_frozen Z3 5; have HR3 := Lib.hid (hR.putS 5 (.string v2) T3 (by rw [HT3.out]) (by rw [HT3.out]) (by rw [HT3.out]) (by rw [HT3.out]) (fun _ _ => by rw [HT3.out]; rfl)); clear hR hK Z3) | (go_at_call 78; refine (script_at HR1.out).mono ?_; rw [← HV1.out, ← HPS2.out]; rintro e w2 ⟨rfl, hR, hK⟩; obtain ⟨Z1, z2, Z3, -, -⟩ := hR.cells; have zz4 : World.cell? w2 ⟨g, 4, none⟩ = some _ := (blk_cell Z3 4).trans rfl; have ff4 := blk_frozen Z3 4; have HR2 := Lib.hid (hR.putS 4 (.string v1) T2 (by rw [HT2.out]) (by rw [HT2.out]) (by rw [HT2.out]) (by rw [HT2.out]) (fun _ _ => by rw [HT2.out]; rfl)); clear hR hK Z3) | (go_at_call 81; refine (variants_good HR3.out HQ3.out HN3.out HVG.out).mono ?_; rintro e w4 ⟨u4, rfl, hR⟩; have HR4 := Lib.hid (show Rd w0 wp w4 g ps4 E T4 u1 u4 (.slice none 0 0) (.slice none 0 0) by rw [HT4.out, HPS4.out]; exact hR); clear hR) | (go_at_call 82; refine (exts_good HR4.out HQ4.out HN4.out HEG.out).mono ?_; rintro e w5 ⟨u5, rfl, hR⟩; have HA := Lib.hid (show Rd w0 wp w5 g ps5 E T5 u1 u4 u5 (.slice none 0 0) by rw [HT5.out, HPS5.out]; exact hR); obtain ⟨Z1, z2, Z3, -, -⟩ := HA.out.cells; rw [← HNN.out] at Z3; have zl : World.cell? w5 ⟨g, 0, none⟩ = some _ := (blk_cell Z3 0).trans rfl; clear hR Z3) | (go_at_call 76; refine (here_calls HA.out).mono ?_; rw [← HS9.out]; rintro e w9 ⟨rfl, ⟨nd, rfl⟩⟩) | (go_at_call 76; refine (here_calls HH.out).mono ?_; rw [← HS0.out]; rintro e w9 ⟨rfl, ⟨nd0, rfl⟩⟩) | (go_at_call 86; refine (stop_calls (HA.out.drewN _)).mono ?_; rintro e w8 ⟨⟨B, rfl, hF, hB⟩, hb⟩; have HF := Lib.hid hF; have HBB := Lib.hid hB; have HBW := Lib.hid ((HA.out.drewN _).badK hb); clear hF hB hb))
              refine ⟨rfl, ?_⟩
              rw [HRE2.out]
              exact ⟨⟨B, rfl, HF.out, Nat.le_trans HA.out.size HBB.out⟩, HBW.out⟩
  · have clf : oneB qLang ps = false := by simpa using cl
    have HCL := Lib.hid clf
    have HRES := Lib.hid (show allR E ps = .bad 10 (stopE E ps).1 (stopE E ps).2 by rw [allR, if_neg cx, if_neg cl])
    clear cx hs0 cl clf
    go_enter Tryz.func45, Tryz.ntmps45
    go_wp2_with (first | (go_at_call 76; refine (here_calls HH.out).mono ?_; rw [← HS0.out]; rintro e w9 ⟨rfl, ⟨nd0, rfl⟩⟩) | (go_at_call 77; refine (language_bad (HH.out.drewN _) rfl HCL.out).mono ?_; rintro e w8 ⟨⟨B, rfl, hF, hB⟩, hb⟩; have HF := Lib.hid hF; have HBB := Lib.hid hB; have HBW := Lib.hid hb; clear hF hB hb))
    refine ⟨rfl, ?_⟩
    rw [HRES.out]
    exact ⟨⟨B, rfl, HF.out, Nat.le_trans HH.out.size HBB.out⟩, HBW.out⟩
theorem all_calls {w0 wp W : World} {g : Nat} {ps : List PieceR} {E : Int} (h : Rd w0 wp W g ps E T0 (.slice none 0 0) (.slice none 0 0) (.slice none 0 0) (.slice none 0 0)) (hn : ps.length ≤ 1000000) :
    Calls Tryz.prog 45 #[.pointer (some ⟨g, 0, none⟩)] W fun e W' => AllSaid w0 wp g E (allR E ps) e W' := by
  by_cases cx : bl (hereB ps) = [120]
  · exact all_x h hn cx
  · exact all_n h hn cx
end Go.Proofs.YtejnfbfikadpdaaGreatDoor.P
