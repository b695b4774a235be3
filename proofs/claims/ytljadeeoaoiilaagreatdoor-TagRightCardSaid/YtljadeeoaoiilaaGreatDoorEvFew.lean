/- What few comes to, in plain words: four things of a row at most, twelve bytes of a text at most. -/
import Derived.Test.YtljadeeoaoiilaaGreatDoorEvC
import Derived.Test.YtljadeeoaoiilaaGreatDoorHandT
import Derived.Test.YtljadeeoaoiilaaGreatDoorPx1
import Derived.Test.YtljadeeoaoiilaaGreatDoorPx2
namespace Go.Proofs.YtljadeeoaoiilaaGreatDoor.Iso
open Go Go.RowKit Go.Proofs.YtljadeeoaoiilaaGreatDoorW.PrintWords Go.Proofs.YtljadeeoaoiilaaGreatDoor.P
set_option linter.unusedVariables false
set_option linter.unusedSimpArgs false
def cut12 (s : ByteArray) : ByteArray := if (s.size : Int) > 12 then s.extract 0 12 else s
theorem short6_eq (s : ByteArray) : isoglosslaw06_short.f s = some (cut12 s) := by
  unfold isoglosslaw06_short.f cut12
  by_cases h : (s.size : Int) > 12
  · rw [if_pos h, if_pos (by decide), if_pos (by omega), if_pos h]
  · rw [if_neg h, if_neg h]
theorem cut12_size (s : ByteArray) : (cut12 s).size ≤ 12 := by
  unfold cut12
  by_cases h : (s.size : Int) > 12
  · rw [if_pos h, ByteArray.size_extract]; omega
  · rw [if_neg h]; omega
def row4 (l : List ByteArray) : List ByteArray := (l.take 4).map cut12
theorem row4_len (l : List ByteArray) : (row4 l).length ≤ 4 := by unfold row4; rw [List.length_map, List.length_take]; omega
theorem take_snoc_map {α β : Type} (f : α → β) (l : List α) (i : Nat) (h : i < l.length) : (l.take (i + 1)).map f = (l.take i).map f ++ [f l[i]] := by
  rw [List.take_succ_eq_append_getElem h, List.map_append]; rfl
theorem row6_l0 (l : List ByteArray) : ∀ (d i : Nat), d + i = 4 → Ev (fun k => isoglosslaw06_row.l0 k l ((l.take i).map cut12) (i : Int)) (row4 l) := by
  intro d
  induction d with
  | zero =>
    intro i hi
    obtain rfl : i = 4 := by omega
    refine Ev.step (f := fun _ => some (row4 l)) (fun k => ?_) (Ev.now _)
    simp only [isoglosslaw06_row.l0]
    by_cases c : ((4 : Nat) : Int) < (l.length : Int)
    · rw [if_pos c, if_neg (by decide)]; rfl
    · rw [if_neg c]; rfl
  | succ d ih =>
    intro i hi
    by_cases c : (i : Int) < (l.length : Int)
    · have hlt : i < l.length := by omega
      have hw : wrap64 ((i : Int) + 1) = ((i + 1 : Nat) : Int) := by unfold wrap64; omega
      have hr : rdOf ByteArray.empty l (i : Int) = l[i] := by unfold rdOf; rw [Int.toNat_natCast, List.getD_eq_getElem?_getD, List.getElem?_eq_getElem hlt]; rfl
      refine Ev.step (fun k => ?_) (ih (i + 1) (by omega))
      simp only [isoglosslaw06_row.l0]
      rw [if_pos c, if_pos (show (i : Int) < 4 by omega), if_pos (show (0 : Int) ≤ (i : Int) by omega), hr, short6_eq, Option.bind_some, if_pos (by rw [List.length_map, List.length_take]; omega), hw, take_snoc_map cut12 l i hlt]
    · refine Ev.step (f := fun _ => some (row4 l)) (fun k => ?_) (Ev.now _)
      simp only [isoglosslaw06_row.l0]
      rw [if_neg c, row4, List.take_of_length_le (by omega), List.take_of_length_le (by omega)]
theorem row6_ev (l : List ByteArray) : Ev (fun k => isoglosslaw06_row.f k l) (row4 l) := row6_l0 l 4 0 rfl
def cutX (x : S40) : S40 := ⟨cut12 x.f0, row4 x.f1⟩
def fewT (T : TG) : TG := ⟨cut12 T.lang, row4 T.ext, cut12 T.script, cut12 T.region, row4 T.vars, (T.exts.take 4).map cutX, row4 T.priv, cut12 T.grand⟩
theorem few_l0 (T U : TG) : ∀ (d i : Nat), d + i = 4 →
    Ev (fun k => isoglosslaw06_few.l0 k (i : Int) T.lang T.ext T.script T.region T.vars T.exts T.priv T.grand U.lang U.ext U.script U.region U.vars ((T.exts.take i).map cutX) U.priv U.grand)
      (U.lang, U.ext, U.script, U.region, U.vars, (T.exts.take 4).map cutX, U.priv, U.grand) := by
  intro d
  have fin : ∀ i : Nat, ¬ ((i : Int) < (T.exts.length : Int) ∧ (i : Int) < 4) → (T.exts.take i).map cutX = (T.exts.take 4).map cutX → Ev (fun k => isoglosslaw06_few.l0 k (i : Int) T.lang T.ext T.script T.region T.vars T.exts T.priv T.grand U.lang U.ext U.script U.region U.vars ((T.exts.take i).map cutX) U.priv U.grand)
      (U.lang, U.ext, U.script, U.region, U.vars, (T.exts.take 4).map cutX, U.priv, U.grand) := by
    intro i hi he
    refine Ev.step (f := fun k => isoglosslaw06_few.j1 k (i : Int) false T.lang T.ext T.script T.region T.vars T.exts T.priv T.grand U.lang U.ext U.script U.region U.vars ((T.exts.take i).map cutX) U.priv U.grand) (fun k => ?_) ?_
    · simp only [isoglosslaw06_few.l0]
      by_cases c : (i : Int) < (T.exts.length : Int)
      · rw [if_pos c, decide_eq_false (fun h => hi ⟨c, h⟩)]
      · rw [if_neg c]
    · refine Ev.step (f := fun _ => some (U.lang, U.ext, U.script, U.region, U.vars, (T.exts.take 4).map cutX, U.priv, U.grand)) (fun k => ?_) (Ev.now _)
      simp only [isoglosslaw06_few.j1, Bool.false_eq_true, ↓reduceIte]
      rw [he]
  induction d with
  | zero =>
    intro i hi
    obtain rfl : i = 4 := by omega
    exact fin 4 (fun h => by omega) rfl
  | succ d ih =>
    intro i hi
    by_cases c : (i : Int) < (T.exts.length : Int)
    · have hlt : i < T.exts.length := by omega
      have hw : wrap64 ((i : Int) + 1) = ((i + 1 : Nat) : Int) := by unfold wrap64; omega
      have hr : rd_T40 T.exts (i : Int) = T.exts[i] := by unfold rd_T40; rw [Int.toNat_natCast, List.getD_eq_getElem?_getD, List.getElem?_eq_getElem hlt]; rfl
      refine Ev.step (f := fun k => isoglosslaw06_few.j1 k (i : Int) true T.lang T.ext T.script T.region T.vars T.exts T.priv T.grand U.lang U.ext U.script U.region U.vars ((T.exts.take i).map cutX) U.priv U.grand) (fun k => ?_) ?_
      · simp only [isoglosslaw06_few.l0]
        rw [if_pos c, decide_eq_true (show (i : Int) < 4 by omega)]
      · refine Ev.step (f := fun k => (isoglosslaw06_row.f k T.exts[i].f1).bind fun t => isoglosslaw06_few.l0 k ((i + 1 : Nat) : Int) T.lang T.ext T.script T.region T.vars T.exts T.priv T.grand U.lang U.ext U.script U.region U.vars ((T.exts.take i).map cutX ++ [⟨cut12 T.exts[i].f0, t⟩]) U.priv U.grand) (fun k => ?_) (Ev.bind (row6_ev T.exts[i].f1) ?_)
        · simp only [isoglosslaw06_few.j1, ↓reduceIte]
          rw [if_pos (show (0 : Int) ≤ (i : Int) by omega), if_pos c, hr, short6_eq, Option.bind_some, hw]
          congr 1
          funext t
          rw [if_pos (by rw [List.length_map, List.length_take]; omega)]
        · have e := take_snoc_map cutX T.exts i hlt
          have := ih (i + 1) (by omega)
          rw [e] at this
          exact this
    · exact fin i (fun h => c h.1) (by rw [List.take_of_length_le (by omega), List.take_of_length_le (by omega)])
theorem few_ev (T : TG) : Ev (fun k => isoglosslaw06_few.f k T.lang T.ext T.script T.region T.vars T.exts T.priv T.grand) ((fewT T).lang, (fewT T).ext, (fewT T).script, (fewT T).region, (fewT T).vars, (fewT T).exts, (fewT T).priv, (fewT T).grand) := by
  unfold isoglosslaw06_few.f
  simp only [short6_eq, Option.bind_some]
  exact Ev.bind (row6_ev _) (Ev.bind (row6_ev _) (Ev.bind (row6_ev _) (few_l0 T (fewT T) 4 0 rfl)))
end Go.Proofs.YtljadeeoaoiilaaGreatDoor.Iso
