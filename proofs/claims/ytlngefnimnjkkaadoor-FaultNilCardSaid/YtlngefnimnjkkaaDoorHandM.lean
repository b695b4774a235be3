/- Marks of loops over functions that are over; cells and rows that stay as they were. No condition. -/
import Derived.Test.YtlngefnimnjkkaaDoorProg
import Derived.Test.YtlngefnimnjkkaaDoorWMore
import Derived.Lib.Hide
import Derived.RangeFuncWrites
import Derived.WalkLawsBesides
import Derived.WalkMore
import Derived.RangeFuncNested
import Derived.RangeFuncBound
import Derived.RangeFuncCalls
import Derived.RangeFuncLeaves
import Derived.RangeFuncBox
import Derived.Shelf.Abstract
import Derived.Shelf.RegionOpen
import Derived.WalkKit
import Derived.OwnWalkIn
import Derived.TacticsInMore
import Derived.LoopNIn
import Derived.LoopIn
import Derived.Maps.AppendAt
import Derived.Test.YtlngefnimnjkkaaDoorWWords
import Derived.RangeFuncFrom
import Derived.RangeFuncOwn
namespace Go.Proofs.YtlngefnimnjkkaaDoor.P
open Go.RowKit Go.Shelf Go.Proofs.YtlngefnimnjkkaaDoorW.PrintWords Go.Proofs.YtlngefnimnjkkaaDoor
set_option linter.unusedVariables false
attribute [local go_sem] Oper.semAt_some
/-! ### marks of loops that are over -/
def Marks (n₀ : Nat) (W : World) : List Deferred → Prop
  | [] => True
  | d :: ds => (∃ r, d = { target := .collected r, args := #[] } ∧ n₀ ≤ r ∧ W.heap[r]? = some (.deferred (some [])) ∧ ∀ d' ∈ ds, ∃ q, d' = { target := .collected q, args := #[] } ∧ q < r) ∧ Marks n₀ W ds
theorem Marks.same {n₀ : Nat} {W W' : World} : ∀ {ds : List Deferred}, Marks n₀ W ds → (∀ r, n₀ ≤ r → W.heap[r]? = some (.deferred (some [])) → ({ target := .collected r, args := #[] } : Deferred) ∈ ds → W'.heap[r]? = some (.deferred (some []))) → Marks n₀ W' ds
  | [], _, _ => trivial
  | d :: ds, h, hk => by
    obtain ⟨⟨r, rfl, h1, h2, h3⟩, h4⟩ := h
    exact ⟨⟨r, rfl, h1, hk r h1 h2 (by simp), h3⟩, h4.same fun q hq1 hq2 hq3 => hk q hq1 hq2 (List.mem_cons_of_mem _ hq3)⟩
theorem Marks.below {n₀ : Nat} {W W' : World} {ds : List Deferred} (h : Marks n₀ W ds) (hb : Below W.heap.size W W') : Marks n₀ W' ds :=
  h.same fun r _ h2 _ => (hb.block r (Array.getElem?_eq_some_iff.1 h2).1).trans h2
theorem Marks.keeps {n₀ : Nat} {W W' : World} {ds : List Deferred} (h : Marks n₀ W ds) (hb : KeepsOthers W W') : Marks n₀ W' ds :=
  h.same fun r _ h2 _ => hb.same r _ h2 rfl
theorem Marks.cons {n₀ : Nat} {W : World} {ds : List Deferred} (h : Marks n₀ W ds) {D : Nat} (hD : n₀ ≤ D) (hw : W.heap[D]? = some (.deferred (some []))) (hlt : ∀ d' ∈ ds, ∃ q, d' = { target := .collected q, args := #[] } ∧ q < D) : Marks n₀ W ({ target := .collected D, args := #[] } :: ds) :=
  ⟨⟨D, rfl, hD, hw, hlt⟩, h⟩
theorem Marks.lt {n₀ : Nat} {W : World} : ∀ {ds : List Deferred}, Marks n₀ W ds → ∀ d' ∈ ds, ∃ q, d' = ({ target := .collected q, args := #[] } : Deferred) ∧ q < W.heap.size
  | [], _, d', hd => by cases hd
  | d :: ds, h, d', hd => by
    obtain ⟨⟨r, rfl, h1, h2, h3⟩, h4⟩ := h
    rcases List.mem_cons.1 hd with rfl | hd
    · exact ⟨r, rfl, (Array.getElem?_eq_some_iff.1 h2).1⟩
    · exact h4.lt d' hd
theorem ownFrom_marks {β : Type} {n₀ B : Nat} {ds : List Deferred} (hlt : ∀ d' ∈ ds, ∃ q, d' = ({ target := .collected q, args := #[] } : Deferred) ∧ q < B) : OwnFrom B (fun (_ : β) W => Marks n₀ W ds) :=
  fun s W W' row hs hg hr => hs.same fun r _ h2 h3 => by
    obtain ⟨q, hq, hlt⟩ := hlt _ h3
    obtain rfl : r = q := by injection hq with h1; injection h1
    exact (hg.block r (Array.getElem?_eq_some_iff.1 h2).1 (fun e => by have := (hr r e.symm).1; omega)).trans h2
theorem leaves_marks {F : Fence} {n : Nat} {P : Program} {fn : Func} {tmps : Array Value} {R : Ending → World → Prop} {n₀ : Nat} : ∀ (ds : List Deferred) (W : World), Marks n₀ W ds →
    (∀ W', Below n₀ W W' → LeavesIn F n P fn tmps R [] .returning W') → LeavesInM F n P fn tmps R ds .returning W
  | [], W, _, h => h W (Below.refl _ _)
  | d :: ds, W, hm, h => by
    obtain ⟨⟨r, rfl, h1, h2, h3⟩, h4⟩ := hm
    refine ⟨by simp, .inl ⟨r, _, rfl, run_takeDeferred h2, ?_⟩⟩
    have hb : Below n₀ W (W.putObj r (.deferred none)) := (Below.refl n₀ W).grown (grownBy_putObj' W r (.deferred none)) (by have := (Array.getElem?_eq_some_iff.1 h2).1; omega) (fun k e => by cases e; exact h1)
    refine leaves_marks ds _ (h4.same fun q _ hq hd => ?_) fun W' hb' => h W' (hb.trans hb')
    obtain ⟨q', hq', hlt⟩ := h3 _ hd
    obtain rfl : q = q' := by injection hq' with e1; injection e1
    exact (World.putObj_heap_other (by omega)).trans hq
theorem boxed_below2 {W W' : World} {B : Nat} {t : TypeId} {v : Value} (h : Boxed W B t v) (hb : Below W.heap.size W W') : Boxed W' B t v := (hb.block B h.lt).trans h
theorem ownFrom_reads {β : Type} {B : Nat} (A : Option Addr) (L : List ByteArray) : OwnFrom B (fun (_ : β) W => ReadsOf Value.string ByteArray.empty W A L.length L) :=
  fun s W W' row hs hg hr => ⟨hs.1, hs.2.1, fun hn => by
    obtain ⟨ad, e, hc⟩ := hs.2.2 hn
    exact ⟨ad, e, fun j hj => cell_kept (hc j hj) hg (fun r e => (hr r e).2)⟩⟩
theorem ba_inj {x y : ByteArray} (h : x.toList = y.toList) : x = y := by
  rw [Go.ByteArray.toList_eq, Go.ByteArray.toList_eq] at h
  exact ByteArray.ext (Array.toList_inj.1 h)
theorem pre_step {L pre : List ByteArray} {x y : ByteArray} (h : pre <+: L) (hy : L[pre.length]? = some y) : pre ++ [x] <+: L ↔ x = y := by
  obtain ⟨t, rfl⟩ := h
  rw [List.getElem?_append_right (Nat.le_refl _), Nat.sub_self] at hy
  rw [List.prefix_append_right_inj]
  cases t with
  | nil => cases hy
  | cons z t =>
    obtain rfl := Option.some.inj hy
    exact ⟨fun ⟨u, hu⟩ => by cases hu; rfl, fun e => ⟨t, by rw [e]; rfl⟩⟩
theorem ReadsOf.set {α : Type} {enc : α → Value} {d : α} {W : World} {A : Option Addr} {n : Nat} {xs : List α} (h : ReadsOf enc d W A n xs) {B : Nat} {v : Value} (hA : ∀ ad, A = some ad → 0 < n → ad.block ≠ B) : ReadsOf enc d (W.setCell ⟨B, 0, none⟩ v) A n xs :=
  ⟨h.1, h.2.1, fun hn => by
    obtain ⟨ad, e, hc⟩ := h.2.2 hn
    refine ⟨ad, e, fun q hq => ?_⟩
    rw [World.cell?_setCell_other _ _ _ _ (fun x => hA ad e hn (by have := congrArg Addr.block x; simp only [add_block] at this; exact this.symm))]
    exact hc q hq⟩
/-- An append to a row (based at b0) that is kept in a variable (block B, below b0), and what else lies below b0. -/
theorem boxed_app2 {W w1 : World} {n₀ b0 B : Nat} {t e : TypeId} {size : Nat} {v v' : Value} {k m : Nat} {xs ys : List Value} {tmp : Obj}
    (hv : Boxed W B t v) (hBb : B < b0) (hrow : W.ownsRow b0 e size v k xs) (hb0 : b0 ≤ W.heap.size) (hB : n₀ ≤ B)
    (hown' : w1.ownsRow b0 e size v' m ys) (hgrow : (W.alloc tmp).grownBy w1 v.ownBlock) :
    Boxed w1 B t v ∧ Boxed (w1.setCell ⟨B, 0, none⟩ v') B t v' ∧ (w1.setCell ⟨B, 0, none⟩ v').ownsRow b0 e size v' m ys ∧ KeepsOthers W (w1.setCell ⟨B, 0, none⟩ v') ∧ Below n₀ W (w1.setCell ⟨B, 0, none⟩ v') ∧
      ∀ B1, B1 < b0 → B1 ≠ B → (w1.setCell ⟨B, 0, none⟩ v').heap[B1]? = W.heap[B1]? := by
  have hne : ∀ j, j < b0 → some j ≠ v.ownBlock := fun j hj e => by have := own_base hrow j e.symm; omega
  have hne' : ∀ j, j < b0 → some j ≠ v'.ownBlock := fun j hj e => by have := own_base hown' j e.symm; omega
  have hv1 : Boxed w1 B t v := (hv.alloc tmp).kept hgrow (hne B hBb)
  refine ⟨hv1, hv1.set v', hown'.kept (grownBy_setCell' w1 B v') (.inr (hne' B hBb).symm), ?_, ?_, ?_⟩
  · refine ((KeepsOthers.alloc W tmp).trans (KeepsOthers.of_grownBy hgrow fun j o ej hj => ?_)).trans (KeepsOthers.setCell _ _ _)
    rcases (hrow.alloc tmp).2 with ⟨rfl, _⟩ | ⟨g, cap, cur, rfl, _, hgb, _⟩
    · simp [Value.ownBlock] at ej
    · obtain rfl : g = j := by simpa [Value.ownBlock] using ej
      rw [hgb] at hj; cases hj; rfl
  · refine (((Below.refl n₀ W).alloc (by omega) tmp).grown hgrow (by simp; omega) fun j ej => ?_).setCell (p := ⟨B, 0, none⟩) hB v'
    have := own_base hrow j ej; omega
  · intro B1 h1 h2
    rw [Below.heap_setCell w1 ⟨B, 0, none⟩ v' B1 h2, hgrow.block B1 (by rw [World.size_alloc]; omega) (hne B1 h1), Below.heap_alloc W tmp B1 (by omega)]
theorem hinfoS : (Tryd.prog.info? 9).map (fun i => (i.zero, i.size, i.bytes)) = some (some (.string ⟨#[]⟩), 1, 16) := by kernel_rfl
end Go.Proofs.YtlngefnimnjkkaaDoor.P
