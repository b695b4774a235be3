/- Made and few, as tags that lie in the memory. -/
import Derived.Test.YtojglflamecnkaaHandT
import Derived.Test.YtojglflamecnkaaMade
namespace Go.Proofs.Ytojglflamecnkaa.P
open Go.RowKit Go.Shelf Go.Proofs.YtojglflamecnkaaW.PrintWords
set_option linter.unusedVariables false
set_option linter.unusedSimpArgs false
def RowsC (W : World) (T : TG) (A1 : Option Addr) (c1 : Nat) (A4 : Option Addr) (c4 : Nat) (A5 : Option Addr) (c5 : Nat) (A6 : Option Addr) (c6 : Nat) : Prop :=
  (Kd.C Kd.string W A1 T.ext.length T.ext ∧ T.ext.length ≤ c1) ∧ (Kd.C Kd.string W A4 T.vars.length T.vars ∧ T.vars.length ≤ c4) ∧ (Kd.C k62 W A5 T.exts.length T.exts ∧ T.exts.length ≤ c5) ∧ (Kd.C Kd.string W A6 T.priv.length T.priv ∧ T.priv.length ≤ c6)
theorem RowsC.below {W W' : World} {T : TG} {A1 : Option Addr} {c1 : Nat} {A4 : Option Addr} {c4 : Nat} {A5 : Option Addr} {c5 : Nat} {A6 : Option Addr} {c6 : Nat} (h : RowsC W T A1 c1 A4 c4 A5 c5 A6 c6) (hb : Below W.heap.size W W') : RowsC W' T A1 c1 A4 c4 A5 c5 A6 c6 :=
  ⟨⟨Kd.C_below h.1.1 hb, h.1.2⟩, ⟨Kd.C_below h.2.1.1 hb, h.2.1.2⟩, ⟨Kd.C_below h.2.2.1.1 hb, h.2.2.1.2⟩, ⟨Kd.C_below h.2.2.2.1 hb, h.2.2.2.2⟩⟩
theorem OwnT.rows {W : World} {base : Nat} {T : TG} {A1 : Option Addr} {c1 : Nat} {A4 : Option Addr} {c4 : Nat} {A5 : Option Addr} {c5 : Nat} {A6 : Option Addr} {c6 : Nat} (h : OwnT W base (.slice A1 T.ext.length c1) (.slice A4 T.vars.length c4) (.slice A5 T.exts.length c5) (.slice A6 T.priv.length c6) T.ext T.vars T.exts T.priv) : RowsC W T A1 c1 A4 c4 A5 c5 A6 c6 :=
  ⟨⟨(Kd.R_reads' h.1).2.2, (Kd.R_reads' h.1).2.1⟩, ⟨(Kd.R_reads' h.2.1).2.2, (Kd.R_reads' h.2.1).2.1⟩, ⟨(Kd.S_reads' h.2.2.1).2.2, (Kd.S_reads' h.2.2.1).2.1⟩, ⟨(Kd.R_reads' h.2.2.2).2.2, (Kd.R_reads' h.2.2.2).2.1⟩⟩
theorem blk_on {w W : World} {g : Nat} {o : Obj} (h : w.heap[g]? = some o) (hb : Below w.heap.size w W) : W.heap[g]? = some o := (hb.block g (blk_lt h)).trans h
theorem new_blk (w : World) (o : Obj) : (w.alloc o).heap[w.heap.size]? = some o := heap_alloc_new w o
end Go.Proofs.Ytojglflamecnkaa.P
