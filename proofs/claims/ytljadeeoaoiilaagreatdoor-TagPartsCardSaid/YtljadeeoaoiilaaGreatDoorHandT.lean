/- A tag, as data, and in the memory. -/
import Derived.Test.YtljadeeoaoiilaaGreatDoorPx0
import Derived.Lib.Hide
namespace Go.Proofs.YtljadeeoaoiilaaGreatDoor.P
open Go.RowKit Go.Shelf Go.Proofs.YtljadeeoaoiilaaGreatDoorW.PrintWords
set_option linter.unusedVariables false
set_option linter.unusedSimpArgs false
structure TG where
  lang : ByteArray
  ext : List ByteArray
  script : ByteArray
  region : ByteArray
  vars : List ByteArray
  exts : List S40
  priv : List ByteArray
  grand : ByteArray
theorem getR (xs : List S40) (i : Nat) (h : i < xs.length) : rd_T40 xs (i : Int) = xs[i] := by
  unfold rd_T40
  rw [Int.toNat_natCast, List.getD_eq_getElem?_getD, List.getElem?_eq_getElem h]; rfl
def TagC (W : World) (T : TG) (v : Value) : Prop := ∃ A1 c1 A4 c4 A5 c5 A6 c6, v = .agg #[.string T.lang, .slice A1 T.ext.length c1, .string T.script, .string T.region, .slice A4 T.vars.length c4, .slice A5 T.exts.length c5, .slice A6 T.priv.length c6, .string T.grand] ∧
  (Kd.C Kd.string W A1 T.ext.length T.ext ∧ T.ext.length ≤ c1) ∧ (Kd.C Kd.string W A4 T.vars.length T.vars ∧ T.vars.length ≤ c4) ∧ (Kd.C k40 W A5 T.exts.length T.exts ∧ T.exts.length ≤ c5) ∧ (Kd.C Kd.string W A6 T.priv.length T.priv ∧ T.priv.length ≤ c6)
theorem TagC.below {W W' : World} {T : TG} {v : Value} (h : TagC W T v) (hb : Below W.heap.size W W') : TagC W' T v := by
  obtain ⟨A1, c1, A4, c4, A5, c5, A6, c6, e, h1, h4, h5, h6⟩ := h
  exact ⟨A1, c1, A4, c4, A5, c5, A6, c6, e, ⟨Kd.C_below h1.1 hb, h1.2⟩, ⟨Kd.C_below h4.1 hb, h4.2⟩, ⟨Kd.C_below h5.1 hb, h5.2⟩, ⟨Kd.C_below h6.1 hb, h6.2⟩⟩
theorem blk_on {w W : World} {g : Nat} {o : Obj} (h : w.heap[g]? = some o) (hb : Below w.heap.size w W) : W.heap[g]? = some o := (hb.block g (blk_lt h)).trans h
theorem new_blk (w : World) (o : Obj) : (w.alloc o).heap[w.heap.size]? = some o := heap_alloc_new w o
end Go.Proofs.YtljadeeoaoiilaaGreatDoor.P
