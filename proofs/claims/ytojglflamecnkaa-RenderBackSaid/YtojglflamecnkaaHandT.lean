/- A tag, as data, and in the memory. -/
import Derived.Test.YtojglflamecnkaaPx0
import Derived.Lib.Hide
namespace Go.Proofs.Ytojglflamecnkaa.P
open Go.RowKit Go.Shelf Go.Proofs.YtojglflamecnkaaW.PrintWords
set_option linter.unusedVariables false
set_option linter.unusedSimpArgs false
def sameX (x y : S62) : Bool := decide (x.f0 = y.f0) && decide (x.f1 = y.f1)
def sameL : List S62 → List S62 → Bool
  | [], [] => true
  | x :: xs, y :: ys => sameX x y && sameL xs ys
  | _, _ => false
structure TG where
  lang : ByteArray
  ext : List ByteArray
  script : ByteArray
  region : ByteArray
  vars : List ByteArray
  exts : List S62
  priv : List ByteArray
  grand : ByteArray
def sameT (T U : TG) : Bool := decide (T.lang = U.lang) && (decide (T.script = U.script) && (decide (T.region = U.region) && (decide (T.grand = U.grand) && (decide (T.ext = U.ext) && (decide (T.vars = U.vars) && (decide (T.priv = U.priv) && sameL T.exts U.exts))))))
theorem ba_inj6 {x y : ByteArray} (h : x.toList = y.toList) : x = y := by
  rw [Go.ByteArray.toList_eq, Go.ByteArray.toList_eq] at h
  exact ByteArray.ext (Array.toList_inj.1 h)
theorem ba_same {x y : ByteArray} : x.toList = y.toList ↔ x = y := ⟨ba_inj6, fun h => by rw [h]⟩
theorem sameL_ne : ∀ (xs ys : List S62), xs.length ≠ ys.length → sameL xs ys = false
  | [], [], h => absurd rfl h
  | [], _ :: _, _ => rfl
  | _ :: _, [], _ => rfl
  | x :: xs, y :: ys, h => by
    unfold sameL
    rw [sameL_ne xs ys (fun e => h (by rw [List.length_cons, List.length_cons, e])), Bool.and_false]
theorem getR (xs : List S62) (i : Nat) (h : i < xs.length) : rd_T62 xs (i : Int) = xs[i] := by
  unfold rd_T62
  rw [Int.toNat_natCast, List.getD_eq_getElem?_getD, List.getElem?_eq_getElem h]; rfl
def TagC (W : World) (T : TG) (v : Value) : Prop := ∃ A1 c1 A4 c4 A5 c5 A6 c6, v = .agg #[.string T.lang, .slice A1 T.ext.length c1, .string T.script, .string T.region, .slice A4 T.vars.length c4, .slice A5 T.exts.length c5, .slice A6 T.priv.length c6, .string T.grand] ∧
  (Kd.C Kd.string W A1 T.ext.length T.ext ∧ T.ext.length ≤ c1) ∧ (Kd.C Kd.string W A4 T.vars.length T.vars ∧ T.vars.length ≤ c4) ∧ (Kd.C k62 W A5 T.exts.length T.exts ∧ T.exts.length ≤ c5) ∧ (Kd.C Kd.string W A6 T.priv.length T.priv ∧ T.priv.length ≤ c6)
theorem TagC.below {W W' : World} {T : TG} {v : Value} (h : TagC W T v) (hb : Below W.heap.size W W') : TagC W' T v := by
  obtain ⟨A1, c1, A4, c4, A5, c5, A6, c6, e, h1, h4, h5, h6⟩ := h
  exact ⟨A1, c1, A4, c4, A5, c5, A6, c6, e, ⟨Kd.C_below h1.1 hb, h1.2⟩, ⟨Kd.C_below h4.1 hb, h4.2⟩, ⟨Kd.C_below h5.1 hb, h5.2⟩, ⟨Kd.C_below h6.1 hb, h6.2⟩⟩
theorem blk_on {w W : World} {g : Nat} {o : Obj} (h : w.heap[g]? = some o) (hb : Below w.heap.size w W) : W.heap[g]? = some o := (hb.block g (blk_lt h)).trans h
theorem new_blk (w : World) (o : Obj) : (w.alloc o).heap[w.heap.size]? = some o := heap_alloc_new w o
end Go.Proofs.Ytojglflamecnkaa.P
