/- Parse's results in the memory, and what reads them: fault.Kind, fault.Place, the document's Same, Text. -/
import Derived.Test.YtejnfbfikadpdaaGreatDoorHandParse
import Derived.Test.YtejnfbfikadpdaaGreatDoorHandSubtags
import Derived.Test.YtejnfbfikadpdaaGreatDoorEvSame
import Derived.Test.YtejnfbfikadpdaaGreatDoorEvTxt
import Derived.Test.YtejnfbfikadpdaaGreatDoorPx10
import Derived.Test.YtejnfbfikadpdaaGreatDoorPx10
namespace Go.Proofs.YtejnfbfikadpdaaGreatDoor.P
open Go.RowKit Go.Shelf Go.Proofs.YtejnfbfikadpdaaGreatDoorW.PrintWords Go.Proofs.YtejnfbfikadpdaaGreatDoorW.PrintLast Go.Proofs.YtejnfbfikadpdaaGreatDoorW.PrintMore Go.Proofs.YtejnfbfikadpdaaGreatDoor.Iso
set_option linter.unusedVariables false
set_option linter.unusedSimpArgs false
attribute [local go_sem] Oper.semAt_some
abbrev errV : Value := .iface 156 (.agg #[.pointer (some ⟨3, 33, none⟩)])
def ErrC (W : World) (r : PRes) (e : Value) : Prop := match r with
  | .good _ => e = .nilIface
  | .bad k a s => ∃ B, e = .iface 93 (.pointer (some ⟨B, 0, none⟩)) ∧ FaultAt W (B, a, s) (.iface 49 (.int .i64 k))
theorem ErrC.below {W W' : World} {r : PRes} {e : Value} (h : ErrC W r e) (hb : Below W.heap.size W W') : ErrC W' r e := by
  cases r with
  | good T => exact h
  | bad k a s => obtain ⟨B, he, hF⟩ := h; exact ⟨B, he, hF.below hb⟩
def kindR : PRes → Int
  | .good _ => 0
  | .bad k _ _ => k
def placR : PRes → Int
  | .good _ => -1
  | .bad _ a _ => a
def tagR : PRes → TG
  | .good T => T
  | .bad _ _ _ => T0
theorem kind_calls {W : World} {r : PRes} {e : Value} (hg : W.cell? ⟨1, 0, none⟩ = some errV) (h : ErrC W r e) : Calls Tryz.prog 25 #[e] W fun ev W' => ev = .returned (.int .i64 (kindR r)) ∧ Below W.heap.size W W' := by
  cases r with
  | good T =>
    have he : e = .nilIface := h
    subst he
    refine (Kind_nil W).mono ?_
    rintro ev W' ⟨rfl, rfl⟩
    exact ⟨rfl, Below.refl _ _⟩
  | bad k a s =>
    obtain ⟨B, rfl, hF⟩ := h
    exact Kind_hit B k W hg hF.inner
theorem place_calls {W : World} {r : PRes} {e : Value} (h : ErrC W r e) : Calls Tryz.prog 26 #[e] W fun ev W' => ev = .returned (.int .i64 (placR r)) ∧ Below W.heap.size W W' := by
  cases r with
  | good T =>
    have he : e = .nilIface := h
    subst he
    exact Place_calls _ [] none W .nil
  | bad k a s =>
    obtain ⟨B, rfl, hF⟩ := h
    exact Place_calls _ [(B, a, s)] (some k) W (.fault hF (.errno k))
theorem Parse_tag (s : ByteArray) (hs : s.size ≤ 900000) (w : World) (hN : NamesIn w) : Calls Tryz.prog 13 #[.string s] w fun e W' => ∃ A1 c1 A4 c4 A5 c5 A6 c6 ev,
    e = .returned (.tuple #[.agg (tagCells (tagR (parseR s)) A1 c1 A4 c4 A5 c5 A6 c6), ev]) ∧ ErrC W' (parseR s) ev ∧ RowsC W' (tagR (parseR s)) A1 c1 A4 c4 A5 c5 A6 c6 ∧ Below w.heap.size w W' := by
  refine (Parse_calls s hs w hN).mono ?_
  rintro e W' ⟨hb, h⟩
  cases hr : parseR s with
  | good T =>
    rw [hr] at h
    obtain ⟨u1, u4, u5, u6, rfl, ho⟩ := h
    obtain ⟨A1, c1, e1⟩ := Kd.R_slice ho.1
    obtain ⟨A4, c4, e4⟩ := Kd.R_slice ho.2.1
    obtain ⟨A5, c5, e5⟩ := Kd.S_slice ho.2.2.1
    obtain ⟨A6, c6, e6⟩ := Kd.R_slice ho.2.2.2
    subst e1 e4 e5 e6
    exact ⟨A1, c1, A4, c4, A5, c5, A6, c6, _, rfl, rfl, ho.rows, hb⟩
  | bad k a what =>
    rw [hr] at h
    obtain ⟨B, rfl, hF, hB⟩ := h
    have ho : OwnT W' w.heap.size nilV nilV nilV nilV T0.ext T0.vars T0.exts T0.priv := ⟨Kd.R_nil _ _ _ _ _, Kd.R_nil _ _ _ _ _, Kd.S_nil _ _ _ _ _, Kd.R_nil _ _ _ _ _⟩
    exact ⟨none, 0, none, 0, none, 0, none, 0, _, rfl, ⟨B, rfl, hF⟩, ho.rows, hb⟩
theorem Parse_good {s : ByteArray} {T : TG} (hr : parseR s = .good T) (hs : s.size ≤ 900000) (w : World) (hN : NamesIn w) : Calls Tryz.prog 13 #[.string s] w fun e W' => ∃ A1 c1 A4 c4 A5 c5 A6 c6,
    e = .returned (.tuple #[.agg (tagCells T A1 c1 A4 c4 A5 c5 A6 c6), .nilIface]) ∧ RowsC W' T A1 c1 A4 c4 A5 c5 A6 c6 ∧ Below w.heap.size w W' := by
  refine (Parse_tag s hs w hN).mono ?_
  rw [hr]
  rintro e W' ⟨A1, c1, A4, c4, A5, c5, A6, c6, ev, he, hE, hR, hb⟩
  obtain rfl : ev = .nilIface := hE
  exact ⟨A1, c1, A4, c4, A5, c5, A6, c6, he, hR, hb⟩
theorem Parse_bad {s : ByteArray} {k a : Int} {what : ByteArray} (hr : parseR s = .bad k a what) (hs : s.size ≤ 900000) (w : World) (hN : NamesIn w) : Calls Tryz.prog 13 #[.string s] w fun e W' => ∃ A1 c1 A4 c4 A5 c5 A6 c6 B,
    e = .returned (.tuple #[.agg #[.string ⟨#[]⟩, .slice A1 0 c1, .string ⟨#[]⟩, .string ⟨#[]⟩, .slice A4 0 c4, .slice A5 0 c5, .slice A6 0 c6, .string ⟨#[]⟩], .iface 93 (.pointer (some ⟨B, 0, none⟩))]) ∧ FaultAt W' (B, a, what) (.iface 49 (.int .i64 k)) ∧ RowsC W' T0 A1 c1 A4 c4 A5 c5 A6 c6 ∧ Below w.heap.size w W' := by
  refine (Parse_tag s hs w hN).mono ?_
  rw [hr]
  rintro e W' ⟨A1, c1, A4, c4, A5, c5, A6, c6, ev, he, ⟨B, rfl, hF⟩, hR, hb⟩
  exact ⟨A1, c1, A4, c4, A5, c5, A6, c6, B, he, hF, hR, hb⟩
theorem rows_max {W : World} {T : TG} {A1 : Option Addr} {c1 : Nat} {A4 : Option Addr} {c4 : Nat} {A5 : Option Addr} {c5 : Nat} {A6 : Option Addr} {c6 : Nat} (h : RowsC W T A1 c1 A4 c4 A5 c5 A6 c6) :
    T.ext.length ≤ 9223372036854775807 ∧ T.vars.length ≤ 9223372036854775807 ∧ T.priv.length ≤ 9223372036854775807 ∧ T.exts.length ≤ 9223372036854775807 ∧ ∀ x ∈ T.exts, x.f1.length ≤ 9223372036854775807 := by
  refine ⟨Kd.C_max h.1.1, Kd.C_max h.2.1.1, Kd.C_max h.2.2.2.1, Kd.C_max h.2.2.1.1, fun x hx => ?_⟩
  obtain ⟨i, hi, rfl⟩ := List.getElem_of_mem hx
  obtain ⟨ad, E1, k1, hA, hx0, hx1, lx, gx⟩ := at_T47 h.2.2.1.1 (i : Int) (by omega) (by omega)
  rw [getR _ i hi] at gx
  exact Kd.C_max gx
theorem same_calls {W : World} {T U : TG} {A1 : Option Addr} {c1 : Nat} {A4 : Option Addr} {c4 : Nat} {A5 : Option Addr} {c5 : Nat} {A6 : Option Addr} {c6 : Nat} {B1 : Option Addr} {d1 : Nat} {B4 : Option Addr} {d4 : Nat} {B5 : Option Addr} {d5 : Nat} {B6 : Option Addr} {d6 : Nat} (h : RowsC W T A1 c1 A4 c4 A5 c5 A6 c6) (g : RowsC W U B1 d1 B4 d4 B5 d5 B6 d6) :
    Calls Tryz.prog 16 #[.agg (tagCells T A1 c1 A4 c4 A5 c5 A6 c6), .agg (tagCells U B1 d1 B4 d4 B5 d5 B6 d6)] W fun e W' => e = .returned (.bool (sameT T U)) ∧ Below W.heap.size W W' := by
  obtain ⟨m1, m4, m6, m5, ms⟩ := rows_max h
  obtain ⟨k, hk⟩ := (reftag_ev T U m1 m4 m6 m5 ms).rounds
  exact r6_Same.calls k _ _ _ _ _ _ _ _ _ _ _ _ _ _ _ _ _ _ _ _ _ _ _ _ _ _ _ _ _ _ _ _ _ W h.1.1 h.1.2 h.2.1.1 h.2.1.2 h.2.2.1.1 h.2.2.1.2 h.2.2.2.1 h.2.2.2.2 g.1.1 g.1.2 g.2.1.1 g.2.1.2 g.2.2.1.1 g.2.2.1.2 g.2.2.2.1 g.2.2.2.2 hk
theorem text_ev {T : TG} (f : FewS T) (h : TxtS T) : Ev (fun k => r7_Text.f k T.lang T.ext T.script T.region T.vars T.exts T.priv T.grand) (mk (textT T)) := by
  unfold r7_Text.f
  exact Ev.bind f.ref (Ev.bind (fewS_joined f h) (Ev.now _))
theorem text_calls {W : World} {T : TG} {A1 : Option Addr} {c1 : Nat} {A4 : Option Addr} {c4 : Nat} {A5 : Option Addr} {c5 : Nat} {A6 : Option Addr} {c6 : Nat} (h : RowsC W T A1 c1 A4 c4 A5 c5 A6 c6) (f : FewS T) (t : TxtS T) :
    Calls Tryz.prog 12 #[.agg (tagCells T A1 c1 A4 c4 A5 c5 A6 c6)] W fun e W' => e = .returned (.string (mk (textT T))) ∧ Below W.heap.size W W' := by
  obtain ⟨k, hk⟩ := (text_ev f t).rounds
  exact r7_Text.calls k _ _ _ _ _ _ _ _ _ _ _ _ _ _ _ _ _ W h.1.1 h.1.2 h.2.1.1 h.2.1.2 h.2.2.1.1 h.2.2.1.2 h.2.2.2.1 h.2.2.2.2 hk
end Go.Proofs.YtejnfbfikadpdaaGreatDoor.P
