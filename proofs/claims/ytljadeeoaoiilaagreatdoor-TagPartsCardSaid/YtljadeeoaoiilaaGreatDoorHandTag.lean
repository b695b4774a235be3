/- Made and few, as tags that lie in the memory. -/
import Derived.Test.YtljadeeoaoiilaaGreatDoorHandT
import Derived.Test.YtljadeeoaoiilaaGreatDoorMade
import Derived.Test.YtljadeeoaoiilaaGreatDoorPx0
import Derived.Test.YtljadeeoaoiilaaGreatDoorPx1
namespace Go.Proofs.YtljadeeoaoiilaaGreatDoor.P
open Go.RowKit Go.Shelf Go.Proofs.YtljadeeoaoiilaaGreatDoorW.PrintWords
set_option linter.unusedVariables false
set_option linter.unusedSimpArgs false
def RowsC (W : World) (T : TG) (A1 : Option Addr) (c1 : Nat) (A4 : Option Addr) (c4 : Nat) (A5 : Option Addr) (c5 : Nat) (A6 : Option Addr) (c6 : Nat) : Prop :=
  (Kd.C Kd.string W A1 T.ext.length T.ext ∧ T.ext.length ≤ c1) ∧ (Kd.C Kd.string W A4 T.vars.length T.vars ∧ T.vars.length ≤ c4) ∧ (Kd.C k40 W A5 T.exts.length T.exts ∧ T.exts.length ≤ c5) ∧ (Kd.C Kd.string W A6 T.priv.length T.priv ∧ T.priv.length ≤ c6)
theorem RowsC.below {W W' : World} {T : TG} {A1 : Option Addr} {c1 : Nat} {A4 : Option Addr} {c4 : Nat} {A5 : Option Addr} {c5 : Nat} {A6 : Option Addr} {c6 : Nat} (h : RowsC W T A1 c1 A4 c4 A5 c5 A6 c6) (hb : Below W.heap.size W W') : RowsC W' T A1 c1 A4 c4 A5 c5 A6 c6 :=
  ⟨⟨Kd.C_below h.1.1 hb, h.1.2⟩, ⟨Kd.C_below h.2.1.1 hb, h.2.1.2⟩, ⟨Kd.C_below h.2.2.1.1 hb, h.2.2.1.2⟩, ⟨Kd.C_below h.2.2.2.1 hb, h.2.2.2.2⟩⟩
abbrev tagCells (T : TG) (A1 : Option Addr) (c1 : Nat) (A4 : Option Addr) (c4 : Nat) (A5 : Option Addr) (c5 : Nat) (A6 : Option Addr) (c6 : Nat) : Array Value := #[.string T.lang, .slice A1 T.ext.length c1, .string T.script, .string T.region, .slice A4 T.vars.length c4, .slice A5 T.exts.length c5, .slice A6 T.priv.length c6, .string T.grand]
theorem Made_tag (k : Nat) (a0 a1 a2 a3 : Int) (A4 : Option Addr) (c4 : Nat) (l4 : List Int) (A5 : Option Addr) (c5 : Nat) (l5 : List Int) (A6 : Option Addr) (c6 : Nat) (l6 : List Int) (a7 : Int) (T : TG) (w : World) (h4 : Kd.C (Kd.int .i64) w A4 l4.length l4 ∧ l4.length ≤ c4) (h5 : Kd.C (Kd.int .i64) w A5 l5.length l5 ∧ l5.length ≤ c5) (h6 : Kd.C (Kd.int .i64) w A6 l6.length l6 ∧ l6.length ≤ c6)
    (h : r6_Made.f k a0 a1 a2 a3 l4 l5 l6 a7 = some (T.lang, T.ext, T.script, T.region, T.vars, T.exts, T.priv, T.grand)) :
    Calls Tryz.prog 7 #[.agg #[.int .i64 a0, .int .i64 a1, .int .i64 a2, .int .i64 a3, .slice A4 l4.length c4, .slice A5 l5.length c5, .slice A6 l6.length c6, .int .i64 a7]] w fun e w' => ∃ A1 c1 A4 c4 A5 c5 A6 c6, e = .returned (.agg (tagCells T A1 c1 A4 c4 A5 c5 A6 c6)) ∧ RowsC w' T A1 c1 A4 c4 A5 c5 A6 c6 ∧ Below w.heap.size w w' := by
  refine (r6_Made.calls k a0 a1 a2 a3 A4 c4 l4 A5 c5 l5 A6 c6 l6 a7 _ _ _ _ _ _ _ _ w h4.1 h4.2 h5.1 h5.2 h6.1 h6.2 h).mono fun e w' ⟨v1, v4, v5, v6, he, g1, g4, g5, g6, hb⟩ => ?_
  obtain ⟨B1, d1, e1, x1, y1⟩ := Kd.R_reads g1
  obtain ⟨B4, d4, e4, x4, y4⟩ := Kd.R_reads g4
  obtain ⟨B5, d5, e5, x5, y5⟩ := Kd.S_reads g5
  obtain ⟨B6, d6, e6, x6, y6⟩ := Kd.R_reads g6
  exact ⟨B1, d1, B4, d4, B5, d5, B6, d6, by rw [he, e1, e4, e5, e6], ⟨⟨y1, x1⟩, ⟨y4, x4⟩, ⟨y5, x5⟩, ⟨y6, x6⟩⟩, hb⟩
theorem OwnT.rows {W : World} {base : Nat} {T : TG} {A1 : Option Addr} {c1 : Nat} {A4 : Option Addr} {c4 : Nat} {A5 : Option Addr} {c5 : Nat} {A6 : Option Addr} {c6 : Nat} (h : OwnT W base (.slice A1 T.ext.length c1) (.slice A4 T.vars.length c4) (.slice A5 T.exts.length c5) (.slice A6 T.priv.length c6) T.ext T.vars T.exts T.priv) : RowsC W T A1 c1 A4 c4 A5 c5 A6 c6 :=
  ⟨⟨(Kd.R_reads' h.1).2.2, (Kd.R_reads' h.1).2.1⟩, ⟨(Kd.R_reads' h.2.1).2.2, (Kd.R_reads' h.2.1).2.1⟩, ⟨(Kd.S_reads' h.2.2.1).2.2, (Kd.S_reads' h.2.2.1).2.1⟩, ⟨(Kd.R_reads' h.2.2.2).2.2, (Kd.R_reads' h.2.2.2).2.1⟩⟩
end Go.Proofs.YtljadeeoaoiilaaGreatDoor.P
