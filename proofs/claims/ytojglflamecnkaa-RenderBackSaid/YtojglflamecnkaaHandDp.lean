/- The plain part of how texts are parsed (out of chapter 7). -/
import Derived.Test.YtojglflamecnkaaSq
import Derived.Test.YtojglflamecnkaaEvC
import Derived.Test.YtojglflamecnkaaHand1
import Derived.Lib.Hide
import Derived.Test.YtojglflamecnkaaHandT
import Derived.Test.YtojglflamecnkaaHandSpoilt
import Derived.WalkLawsBesides
import Derived.RangeFuncWrites
import Derived.RangeFuncNested
import Derived.Test.YtojglflamecnkaaPx2
import Derived.Test.YtojglflamecnkaaHandTag
import Derived.Test.YtojglflamecnkaaEvSame
import Derived.Test.YtojglflamecnkaaEvTxt
import Derived.Test.YtojglflamecnkaaPx22
import Derived.Test.YtojglflamecnkaaPx6
import Derived.Test.YtojglflamecnkaaPx4
import Derived.Test.YtojglflamecnkaaPx4
namespace Go.Proofs.Ytojglflamecnkaa.P
open Go.RowKit Go.Shelf Go.Proofs.YtojglflamecnkaaW.PrintWords Go.Proofs.YtojglflamecnkaaW.PrintLast Go.Proofs.YtojglflamecnkaaW.PrintMore Go.Proofs.Ytojglflamecnkaa.Iso
set_option linter.unusedVariables false
set_option linter.unusedSimpArgs false
attribute [local go_sem] Oper.semAt_some
def nameL : List Str := [[97, 114, 116, 45, 108, 111, 106, 98, 97, 110], [99, 101, 108, 45, 103, 97, 117, 108, 105, 115, 104], [101, 110, 45, 103, 98, 45, 111, 101, 100], [105, 45, 97, 109, 105], [105, 45, 98, 110, 110], [105, 45, 100, 101, 102, 97, 117, 108, 116], [105, 45, 101, 110, 111, 99, 104, 105, 97, 110], [105, 45, 104, 97, 107], [105, 45, 107, 108, 105, 110, 103, 111, 110], [105, 45, 108, 117, 120], [105, 45, 109, 105, 110, 103, 111], [105, 45, 110, 97, 118, 97, 106, 111], [105, 45, 112, 119, 110], [105, 45, 116, 97, 111], [105, 45, 116, 97, 121], [105, 45, 116, 115, 117], [110, 111, 45, 98, 111, 107], [110, 111, 45, 110, 121, 110], [115, 103, 110, 45, 98, 101, 45, 102, 114], [115, 103, 110, 45, 98, 101, 45, 110, 108], [115, 103, 110, 45, 99, 104, 45, 100, 101], [122, 104, 45, 103, 117, 111, 121, 117], [122, 104, 45, 104, 97, 107, 107, 97], [122, 104, 45, 109, 105, 110], [122, 104, 45, 109, 105, 110, 45, 110, 97, 110], [122, 104, 45, 120, 105, 97, 110, 103]]
def nm (i : Nat) : ByteArray := mk (nameL.getD i [])
def findP (s : ByteArray) (i : Nat) : Bool := decide (0 ≤ cmpL (low (bl (nm i))) (low (bl s)))
def srch (p : Nat → Bool) : Nat → Nat → Nat → Nat
  | 0, i, _ => i
  | n + 1, i, j => if i < j then (if p ((i + j) / 2) then srch p n i ((i + j) / 2) else srch p n ((i + j) / 2 + 1) j) else i
def findI (s : ByteArray) : Nat := srch (findP s) 27 0 26
def isGrand (s : ByteArray) : Bool := decide (findI s < 26) && same (bl (nm (findI s))) (bl s)
end Go.Proofs.Ytojglflamecnkaa.P
namespace Go.Proofs.Ytojglflamecnkaa.P
open Go.RowKit Go.Shelf Go.Proofs.YtojglflamecnkaaW.PrintWords Go.Proofs.Ytojglflamecnkaa.Iso
set_option linter.unusedVariables false
set_option linter.unusedSimpArgs false
abbrev PieceR := S58
def hereB : List PieceR → ByteArray
  | [] => ⟨#[]⟩
  | p :: _ => if p.f1.size ≤ 8 ∧ alnum (bl p.f1) = true then p.f1 else ⟨#[]⟩
theorem hereB_cons (p : PieceR) (t : List PieceR) : hereB (p :: t) = if p.f1.size ≤ 8 ∧ alnum (bl p.f1) = true then p.f1 else ⟨#[]⟩ := rfl
end Go.Proofs.Ytojglflamecnkaa.P
namespace Go.Proofs.Ytojglflamecnkaa.P
open Go.RowKit Go.Shelf Go.Proofs.YtojglflamecnkaaW.PrintWords Go.Proofs.Ytojglflamecnkaa.Iso
set_option linter.unusedVariables false
set_option linter.unusedSimpArgs false
def stopE (E : Int) : List PieceR → Int × ByteArray
  | [] => (E, ⟨#[101, 110, 100]⟩)
  | p :: _ => (p.f0, ⟨#[115, 117, 98, 116, 97, 103]⟩)
end Go.Proofs.Ytojglflamecnkaa.P
namespace Go.Proofs.Ytojglflamecnkaa.P
open Go.RowKit Go.Shelf Go.Proofs.YtojglflamecnkaaW.PrintWords Go.Proofs.Ytojglflamecnkaa.Iso
set_option linter.unusedVariables false
set_option linter.unusedSimpArgs false
def oneQb (q : ByteArray → Bool) (ps : List PieceR) : Bool := !(hereB ps).toList.isEmpty && q (hereB ps)
theorem here_ne {ps : List PieceR} (h : (hereB ps).toList.isEmpty = false) : ∃ p t, ps = p :: t ∧ hereB ps = p.f1 ∧ p.f1.size ≤ 8 ∧ alnum (bl p.f1) = true := by
  cases ps with
  | nil => simp [hereB, Go.ByteArray.toList_eq] at h
  | cons p t =>
    rw [hereB_cons] at h
    by_cases c : p.f1.size ≤ 8 ∧ alnum (bl p.f1) = true
    · exact ⟨p, t, rfl, by rw [hereB_cons, if_pos c], c.1, c.2⟩
    · rw [if_neg c] at h; simp [Go.ByteArray.toList_eq] at h
theorem here_size (ps : List PieceR) : (hereB ps).size ≤ 8 := by
  cases ps with
  | nil => decide
  | cons p t =>
    rw [hereB_cons]
    split
    · rename_i c; exact c.1
    · decide
theorem here_none {ps : List PieceR} (c : (hereB ps).toList.isEmpty = true) : hereB ps = ⟨#[]⟩ := by
  have := List.isEmpty_iff.1 c
  exact bl_inj (by rw [← bl_toList, this]; rfl)
end Go.Proofs.Ytojglflamecnkaa.P
namespace Go.Proofs.Ytojglflamecnkaa.P
open Go.RowKit Go.Shelf Go.Proofs.YtojglflamecnkaaW.PrintWords Go.Proofs.Ytojglflamecnkaa.Iso
set_option linter.unusedVariables false
set_option linter.unusedSimpArgs false
def rowL (q : ByteArray → Bool) : List PieceR → List ByteArray
  | [] => []
  | p :: t => if oneQb q (p :: t) then hereB (p :: t) :: rowL q t else []
def rowT (q : ByteArray → Bool) : List PieceR → List PieceR
  | [] => []
  | p :: t => if oneQb q (p :: t) then rowT q t else p :: t
theorem rowL_no {q : ByteArray → Bool} {ps : List PieceR} (h : oneQb q ps = false) : rowL q ps = [] ∧ rowT q ps = ps := by
  cases ps with
  | nil => exact ⟨rfl, rfl⟩
  | cons p t => exact ⟨by unfold rowL; rw [h]; rfl, by unfold rowT; rw [h]; rfl⟩
theorem rowL_len (q : ByteArray → Bool) : ∀ ps : List PieceR, (rowL q ps).length + (rowT q ps).length = ps.length
  | [] => rfl
  | p :: t => by
    unfold rowL rowT
    split
    · have := rowL_len q t
      simp only [List.length_cons]; omega
    · simp
end Go.Proofs.Ytojglflamecnkaa.P
namespace Go.Proofs.Ytojglflamecnkaa.P
open Go.RowKit Go.Shelf Go.Proofs.YtojglflamecnkaaW.PrintWords Go.Proofs.YtojglflamecnkaaW.PrintLast Go.Proofs.Ytojglflamecnkaa.Iso
set_option linter.unusedVariables false
set_option linter.unusedSimpArgs false
section
variable {W w1 : World} {base : Nat} {v1 v4 v5 v6 u : Value} {l1 l4 l6 l : List ByteArray} {l5 : List S62}
theorem OwnT.app1 (h : OwnT W base v1 v4 v5 v6 l1 l4 l5 l6) (hg : W.grownBy w1 v1.ownBlock) (hat : u.ownBlock = v1.ownBlock ∨ ∃ b, u.ownBlock = some b ∧ W.heap.size ≤ b) (hr : Kd.R Kd.string 9 w1 base (fun k_ => some k_ ≠ v4.ownBlock ∧ some k_ ≠ v6.ownBlock) u l) : OwnT w1 base u v4 v5 v6 l l4 l5 l6 := by
  obtain ⟨h1, h4, h5, h6⟩ := h
  have g4 := Kd.R_after (ok := fun k_ => some k_ ≠ v6.ownBlock) (Kd.R_mono h4 (fun _ h => ⟨h.2, h.1⟩)) hg hat
  have g5 := Kd.S_after (ok := fun k_ => some k_ ≠ v4.ownBlock ∧ some k_ ≠ v6.ownBlock) (Kd.S_mono h5 (fun _ h => ⟨h.2, h.1⟩)) hg hat
  have g6 := Kd.R_after (ok := fun k_ => some k_ ≠ v4.ownBlock) (Kd.R_mono h6 (fun _ h => ⟨h.2, h.1⟩)) hg hat
  exact ⟨hr, Kd.R_mono g4 (fun _ h => ⟨h.2, h.1⟩), Kd.S_mono g5 (fun _ h => ⟨h.2, h.1⟩), Kd.R_mono g6 (fun _ h => ⟨h.2, h.1⟩)⟩
theorem OwnT.app4R (h : OwnT W base v1 v4 v5 v6 l1 l4 l5 l6) (hg : W.grownBy w1 v4.ownBlock) (hat : u.ownBlock = v4.ownBlock ∨ ∃ b, u.ownBlock = some b ∧ W.heap.size ≤ b) (hr : Kd.R Kd.string 9 w1 base (fun k_ => some k_ ≠ v1.ownBlock ∧ some k_ ≠ v6.ownBlock) u l) : OwnT w1 base v1 u v5 v6 l1 l l5 l6 := by
  obtain ⟨h1, h4, h5, h6⟩ := h
  have g1 := Kd.R_after (ok := fun k_ => some k_ ≠ v6.ownBlock) (Kd.R_mono h1 (fun _ h => ⟨h.2, h.1⟩)) hg hat
  have g5 := Kd.S_after (ok := fun k_ => some k_ ≠ v1.ownBlock ∧ some k_ ≠ v6.ownBlock) (Kd.S_mono h5 (fun _ h => ⟨⟨h.1, h.2.2⟩, h.2.1⟩)) hg hat
  have g6 := Kd.R_after (ok := fun k_ => some k_ ≠ v1.ownBlock) h6 hg hat
  exact ⟨Kd.R_mono g1 (fun _ h => ⟨h.2, h.1⟩), hr, Kd.S_mono g5 (fun _ h => ⟨h.1.1, h.2, h.1.2⟩), g6⟩
theorem OwnT.fresh1 (h : OwnT W base v1 v4 v5 v6 l1 l4 l5 l6) (k : Nat) (hk : W.heap.size ≤ k) : some k ≠ v4.ownBlock ∧ some k ≠ v6.ownBlock :=
  ⟨fun e => absurd (Kd.R_lt h.2.1 _ e.symm) (by omega), fun e => absurd (Kd.R_lt h.2.2.2 _ e.symm) (by omega)⟩
theorem OwnT.fresh4 (h : OwnT W base v1 v4 v5 v6 l1 l4 l5 l6) (k : Nat) (hk : W.heap.size ≤ k) : some k ≠ v1.ownBlock ∧ some k ≠ v6.ownBlock :=
  ⟨fun e => absurd (Kd.R_lt h.1 _ e.symm) (by omega), fun e => absurd (Kd.R_lt h.2.2.2 _ e.symm) (by omega)⟩
theorem OwnT.fresh5 (h : OwnT W base v1 v4 v5 v6 l1 l4 l5 l6) (k : Nat) (hk : W.heap.size ≤ k) : some k ≠ v1.ownBlock ∧ some k ≠ v4.ownBlock ∧ some k ≠ v6.ownBlock :=
  ⟨fun e => absurd (Kd.R_lt h.1 _ e.symm) (by omega), fun e => absurd (Kd.R_lt h.2.1 _ e.symm) (by omega), fun e => absurd (Kd.R_lt h.2.2.2 _ e.symm) (by omega)⟩
end
end Go.Proofs.Ytojglflamecnkaa.P
namespace Go.Proofs.Ytojglflamecnkaa.P
open Go.RowKit Go.Shelf Go.Proofs.YtojglflamecnkaaW.PrintWords Go.Proofs.YtojglflamecnkaaW.PrintLast Go.Proofs.YtojglflamecnkaaW.PrintMore Go.Proofs.Ytojglflamecnkaa.Iso
set_option linter.unusedVariables false
set_option linter.unusedSimpArgs false
attribute [local go_sem] Oper.semAt_some
def extL : Nat → List PieceR → List ByteArray
  | 0, _ => []
  | _ + 1, [] => []
  | n + 1, p :: t => if isExtl (bl (hereB (p :: t))) then hereB (p :: t) :: extL n t else []
def extT : Nat → List PieceR → List PieceR
  | 0, ps => ps
  | _ + 1, [] => []
  | n + 1, p :: t => if isExtl (bl (hereB (p :: t))) then extT n t else p :: t
theorem extL_no {n : Nat} {ps : List PieceR} (h : isExtl (bl (hereB ps)) = false) : extL n ps = [] ∧ extT n ps = ps := by
  cases n with
  | zero => exact ⟨rfl, rfl⟩
  | succ n =>
    cases ps with
    | nil => exact ⟨rfl, rfl⟩
    | cons p t => exact ⟨by unfold extL; rw [h]; rfl, by unfold extT; rw [h]; rfl⟩
theorem extL_yes {n : Nat} {p : PieceR} {t : List PieceR} (h : isExtl (bl (hereB (p :: t))) = true) : extL (n + 1) (p :: t) = hereB (p :: t) :: extL n t ∧ extT (n + 1) (p :: t) = extT n t :=
  ⟨by rw [extL, if_pos h], by rw [extT, if_pos h]⟩
theorem isExtl_nil : isExtl (bl ⟨#[]⟩) = false := by decide
end Go.Proofs.Ytojglflamecnkaa.P
namespace Go.Proofs.Ytojglflamecnkaa.P
open Go.RowKit Go.Shelf Go.Proofs.YtojglflamecnkaaW.PrintWords Go.Proofs.YtojglflamecnkaaW.PrintLast Go.Proofs.YtojglflamecnkaaW.PrintMore Go.Proofs.Ytojglflamecnkaa.Iso
set_option linter.unusedVariables false
set_option linter.unusedSimpArgs false
attribute [local go_sem] Oper.semAt_some
def varR : List ByteArray → List PieceR → List ByteArray × List PieceR × Bool
  | acc, [] => (acc, [], false)
  | acc, p :: t => if oneQb (fun s => Iso.isVar (bl s)) (p :: t) then (if bl (hereB (p :: t)) ∈ acc.map bl then (acc, p :: t, true) else varR (acc ++ [hereB (p :: t)]) t) else (acc, p :: t, false)
def atOf : List PieceR → Int
  | [] => 0
  | p :: _ => p.f0
theorem varR_no {acc : List ByteArray} {ps : List PieceR} (h : oneQb (fun s => Iso.isVar (bl s)) ps = false) : varR acc ps = (acc, ps, false) := by
  cases ps with
  | nil => rfl
  | cons p t => rw [varR, if_neg (by rw [h]; decide)]
end Go.Proofs.Ytojglflamecnkaa.P
namespace Go.Proofs.Ytojglflamecnkaa.P
open Go.RowKit Go.Shelf Go.Proofs.YtojglflamecnkaaW.PrintWords Go.Proofs.YtojglflamecnkaaW.PrintLast Go.Proofs.YtojglflamecnkaaW.PrintMore Go.Proofs.Ytojglflamecnkaa.Iso
set_option linter.unusedVariables false
set_option linter.unusedSimpArgs false
attribute [local go_sem] Oper.semAt_some
abbrev keysOf (l : List S62) : List Str := l.map fun e => bl e.f0
end Go.Proofs.Ytojglflamecnkaa.P
namespace Go.Proofs.Ytojglflamecnkaa.P
open Go.RowKit Go.Shelf Go.Proofs.YtojglflamecnkaaW.PrintWords Go.Proofs.YtojglflamecnkaaW.PrintLast Go.Proofs.YtojglflamecnkaaW.PrintMore Go.Proofs.Ytojglflamecnkaa.Iso
set_option linter.unusedVariables false
set_option linter.unusedSimpArgs false
attribute [local go_sem] Oper.semAt_some
abbrev qTwo (s : ByteArray) : Bool := decide (1 < s.size)
abbrev isSi (s : ByteArray) : Bool := Iso.isSing (bl s)
def extF : Nat → List S62 → List PieceR → List S62 × List PieceR × Nat
  | 0, acc, ps => (acc, ps, 0)
  | _ + 1, acc, [] => (acc, [], 0)
  | n + 1, acc, p :: t => if oneQb isSi (p :: t) then (if bl (hereB (p :: t)) ∈ keysOf acc then (acc, p :: t, 1) else if (rowL qTwo t).isEmpty then (acc, t, 2) else extF n (acc ++ [⟨hereB (p :: t), rowL qTwo t⟩]) (rowT qTwo t)) else (acc, p :: t, 0)
theorem extF_no {n : Nat} {acc : List S62} {ps : List PieceR} (h : oneQb isSi ps = false) : extF n acc ps = (acc, ps, 0) := by
  cases n with
  | zero => rfl
  | succ n =>
    cases ps with
    | nil => rfl
    | cons p t => rw [extF, if_neg (by rw [h]; decide)]
theorem rowT_none {q : ByteArray → Bool} : ∀ {t : List PieceR}, rowL q t = [] → rowT q t = t
  | [], _ => rfl
  | p :: t, h => by
    rw [rowL] at h
    rw [rowT]
    split at h
    · cases h
    · rename_i c; rw [if_neg c]
theorem keep_blk {W W' : World} {g b : Nat} {o : Obj} (hb : W.heap[b]? = some o) (hk : KeepBut W W' g none) (hne : b ≠ g) : W'.heap[b]? = some o := (hk.2 b (blk_lt hb) hne (by simp)).trans hb
end Go.Proofs.Ytojglflamecnkaa.P
namespace Go.Proofs.Ytojglflamecnkaa.P
open Go.RowKit Go.Shelf Go.Proofs.YtojglflamecnkaaW.PrintWords Go.Proofs.YtojglflamecnkaaW.PrintLast Go.Proofs.YtojglflamecnkaaW.PrintMore Go.Proofs.Ytojglflamecnkaa.Iso
set_option linter.unusedVariables false
set_option linter.unusedSimpArgs false
attribute [local go_sem] Oper.semAt_some
abbrev qScr (s : ByteArray) : Bool := Iso.isScr (bl s)
abbrev qReg (s : ByteArray) : Bool := Iso.isReg (bl s)
abbrev qLang (s : ByteArray) : Bool := Iso.isLang (bl s)
abbrev qVar (s : ByteArray) : Bool := Iso.isVar (bl s)
abbrev qAny (_ : ByteArray) : Bool := true
inductive PRes where
  | good (T : TG)
  | bad (k a : Int) (s : ByteArray)
def oneV (q : ByteArray → Bool) (ps : List PieceR) : ByteArray := if oneQb q ps then hereB ps else ⟨#[]⟩
def oneT (q : ByteArray → Bool) (ps : List PieceR) : List PieceR := if oneQb q ps then ps.drop 1 else ps
def lgT (ps : List PieceR) : List PieceR := if (hereB ps).size ≤ 3 then extT 3 (ps.drop 1) else ps.drop 1
def lgX (ps : List PieceR) : List ByteArray := if (hereB ps).size ≤ 3 then extL 3 (ps.drop 1) else []
def exR (ps : List PieceR) : List S62 × List PieceR × Nat := extF ps.length [] ps
def finR (E : Int) (T : TG) (ps : List PieceR) : PRes := if ps.isEmpty then .good T else .bad 10 (stopE E ps).1 (stopE E ps).2
def tailR (E : Int) (T : TG) (ps : List PieceR) : PRes :=
  if bl (hereB ps) = [120] then (if (rowL qAny (ps.drop 1)).isEmpty then .bad 10 (stopE E (ps.drop 1)).1 (stopE E (ps.drop 1)).2 else finR E { T with priv := rowL qAny (ps.drop 1) } (rowT qAny (ps.drop 1))) else finR E T ps
def T0 : TG := { lang := ⟨#[]⟩, ext := [], script := ⟨#[]⟩, region := ⟨#[]⟩, vars := [], exts := [], priv := [], grand := ⟨#[]⟩ }
def midR (E : Int) (T : TG) (ps1 : List PieceR) : PRes :=
  let ps2 := oneT qScr ps1
  let ps3 := oneT qReg ps2
  if (varR [] ps3).2.2 then .bad 11 (atOf (varR [] ps3).2.1) ⟨#[118, 97, 114, 105, 97, 110, 116]⟩
  else
    let ps4 := (varR [] ps3).2.1
    if (exR ps4).2.2 = 1 then .bad 11 (atOf (exR ps4).2.1) ⟨#[115, 105, 110, 103, 108, 101, 116, 111, 110]⟩
    else if (exR ps4).2.2 = 2 then .bad 10 (stopE E (exR ps4).2.1).1 (stopE E (exR ps4).2.1).2
    else tailR E { T with script := oneV qScr ps1, region := oneV qReg ps2, vars := (varR [] ps3).1, exts := (exR ps4).1 } (exR ps4).2.1
def allR (E : Int) (ps : List PieceR) : PRes :=
  if bl (hereB ps) = [120] then tailR E T0 ps
  else if oneQb qLang ps then midR E { T0 with lang := hereB ps, ext := lgX ps } (lgT ps)
  else .bad 10 (stopE E ps).1 (stopE E ps).2
theorem x_ne {s : ByteArray} (h : ¬ (bl s = [120])) : ¬ (s.toList = ([120] : List UInt8)) ∧ (s.toList == ([120] : List UInt8)) = false ∧ (s.toList != ([120] : List UInt8)) = true := by
  have h1 : ¬ (s.toList = ([120] : List UInt8)) := by rw [bl_toList]; exact h
  exact ⟨h1, beq_eq_false_iff_ne.2 h1, bne_iff_ne.2 h1⟩
theorem x_eq {s : ByteArray} (h : bl s = [120]) : s = ⟨#[120]⟩ := bl_inj h
theorem x_one {q : ByteArray → Bool} {ps : List PieceR} (h : bl (hereB ps) = [120]) : ∃ p t, ps = p :: t := by
  cases ps with
  | nil => exact absurd h (by decide)
  | cons p t => exact ⟨p, t, rfl⟩
end Go.Proofs.Ytojglflamecnkaa.P
namespace Go.Proofs.Ytojglflamecnkaa.P
open Go.RowKit Go.Shelf Go.Proofs.YtojglflamecnkaaW.PrintWords Go.Proofs.YtojglflamecnkaaW.PrintLast Go.Proofs.YtojglflamecnkaaW.PrintMore Go.Proofs.Ytojglflamecnkaa.Iso
set_option linter.unusedVariables false
set_option linter.unusedSimpArgs false
attribute [local go_sem] Oper.semAt_some
def mkP (x : Nat × ByteArray) : PieceR := ⟨(x.1 : Int), mk (low (bl x.2))⟩
def piecesOf (s : ByteArray) : List PieceR := (eachB s).map mkP
def parseR (s : ByteArray) : PRes := if isGrand s then .good { T0 with grand := mk (low (bl s)) } else allR (s.size : Int) (piecesOf s)
theorem eachGo_size : ∀ (l : Str) (a : Nat) (acc : Str), ∀ p ∈ Iso.eachGo a acc l, p.2.length ≤ acc.length + l.length := by
  intro l
  induction l with
  | nil => intro a acc p hp; simp [Iso.eachGo] at hp; rw [hp]; simp
  | cons c t ih =>
    intro a acc p hp
    unfold Iso.eachGo at hp
    split at hp
    · rcases List.mem_cons.1 hp with rfl | hp
      · simp
      · have := ih _ _ p hp
        simp at this ⊢; omega
    · have := ih _ _ p hp
      simp at this ⊢; omega
theorem eachB_size (s : ByteArray) : ∀ x ∈ eachB s, x.2.size ≤ s.size := by
  intro x hx
  unfold eachB at hx
  obtain ⟨p, hp, rfl⟩ := List.mem_map.1 hx
  have := eachGo_size (Iso.bl s) 0 [] p hp
  show (Iso.mk p.2).size ≤ _
  rw [Iso.mk_size]
  rw [Iso.bl_len] at this
  simpa using this
theorem eachB_len (s : ByteArray) : (eachB s).length ≤ s.size + 1 := by
  unfold eachB
  rw [List.length_map]
  have := Iso.eachGo_length (Iso.bl s) 0 []
  rw [Iso.bl_len] at this
  unfold Iso.each; omega
section
variable {W W' : World} {row : Option Nat} {base : Nat} {v1 v4 v5 v6 : Value} {l1 l4 l6 : List ByteArray} {l5 : List S62}
theorem notBlk (hr : ∀ r, row = some r → ∃ o : Obj, W.heap[r]? = some o ∧ o.isCells = false) {k q : Nat} {cells : Array Value} (hc : W.heap[k]? = some (.cells cells q (0, 0))) : some k ≠ row := fun e => by
  obtain ⟨o, ho, hf⟩ := hr k e.symm
  rw [hc] at ho
  cases Option.some.inj ho
  cases hf
theorem OwnT.other (h : OwnT W base v1 v4 v5 v6 l1 l4 l5 l6) (hg : W.grownBy W' row) (hr : ∀ r, row = some r → ∃ o : Obj, W.heap[r]? = some o ∧ o.isCells = false) : OwnT W' base v1 v4 v5 v6 l1 l4 l5 l6 :=
  ⟨Kd.R_mono (Kd.R_grown (Kd.R_bound h.1) hg (fun k hk => by obtain ⟨q, _, cells, hc⟩ := hk.2.2.2; exact notBlk hr hc)) (fun _ h => h.1),
    Kd.R_mono (Kd.R_grown (Kd.R_bound h.2.1) hg (fun k hk => by obtain ⟨q, _, cells, hc⟩ := hk.2.2.2; exact notBlk hr hc)) (fun _ h => h.1),
    Kd.S_mono (Kd.S_grown (Kd.S_bound h.2.2.1) hg (fun k hk => by obtain ⟨q, _, cells, hc⟩ := hk.2.2.2; exact notBlk hr hc)) (fun _ h => h.1),
    Kd.R_mono (Kd.R_grown (Kd.R_bound h.2.2.2) hg (fun k hk => by obtain ⟨q, _, cells, hc⟩ := hk.2.2.2; exact notBlk hr hc)) (fun _ h => h.1)⟩
theorem OwnT.lower {base' : Nat} (h : OwnT W base v1 v4 v5 v6 l1 l4 l5 l6) (hb : base' ≤ base) : OwnT W base' v1 v4 v5 v6 l1 l4 l5 l6 := ⟨Kd.R_lower h.1 hb, Kd.R_lower h.2.1 hb, Kd.S_lower h.2.2.1 hb, Kd.R_lower h.2.2.2 hb⟩
end
end Go.Proofs.Ytojglflamecnkaa.P
namespace Go.Proofs.Ytojglflamecnkaa.P
open Go.RowKit Go.Shelf Go.Proofs.YtojglflamecnkaaW.PrintWords Go.Proofs.YtojglflamecnkaaW.PrintLast Go.Proofs.YtojglflamecnkaaW.PrintMore Go.Proofs.Ytojglflamecnkaa.Iso
set_option linter.unusedVariables false
set_option linter.unusedSimpArgs false
attribute [local go_sem] Oper.semAt_some
theorem rows_max {W : World} {T : TG} {A1 : Option Addr} {c1 : Nat} {A4 : Option Addr} {c4 : Nat} {A5 : Option Addr} {c5 : Nat} {A6 : Option Addr} {c6 : Nat} (h : RowsC W T A1 c1 A4 c4 A5 c5 A6 c6) :
    T.ext.length ≤ 9223372036854775807 ∧ T.vars.length ≤ 9223372036854775807 ∧ T.priv.length ≤ 9223372036854775807 ∧ T.exts.length ≤ 9223372036854775807 ∧ ∀ x ∈ T.exts, x.f1.length ≤ 9223372036854775807 := by
  refine ⟨Kd.C_max h.1.1, Kd.C_max h.2.1.1, Kd.C_max h.2.2.2.1, Kd.C_max h.2.2.1.1, fun x hx => ?_⟩
  obtain ⟨i, hi, rfl⟩ := List.getElem_of_mem hx
  obtain ⟨ad, E1, k1, hA, hx0, hx1, lx, gx⟩ := at_T62 h.2.2.1.1 (i : Int) (by omega) (by omega)
  rw [getR _ i hi] at gx
  exact Kd.C_max gx
theorem same_calls {W : World} {T U : TG} {A1 : Option Addr} {c1 : Nat} {A4 : Option Addr} {c4 : Nat} {A5 : Option Addr} {c5 : Nat} {A6 : Option Addr} {c6 : Nat} {B1 : Option Addr} {d1 : Nat} {B4 : Option Addr} {d4 : Nat} {B5 : Option Addr} {d5 : Nat} {B6 : Option Addr} {d6 : Nat} (h : RowsC W T A1 c1 A4 c4 A5 c5 A6 c6) (g : RowsC W U B1 d1 B4 d4 B5 d5 B6 d6) :
    Calls Try.prog 19 #[.agg (tagCells T A1 c1 A4 c4 A5 c5 A6 c6), .agg (tagCells U B1 d1 B4 d4 B5 d5 B6 d6)] W fun e W' => e = .returned (.bool (sameT T U)) ∧ Below W.heap.size W W' := by
  obtain ⟨m1, m4, m6, m5, ms⟩ := rows_max h
  obtain ⟨k, hk⟩ := (reftag_ev T U m1 m4 m6 m5 ms).rounds
  exact r6_Same.calls k _ _ _ _ _ _ _ _ _ _ _ _ _ _ _ _ _ _ _ _ _ _ _ _ _ _ _ _ _ _ _ _ _ W h.1.1 h.1.2 h.2.1.1 h.2.1.2 h.2.2.1.1 h.2.2.1.2 h.2.2.2.1 h.2.2.2.2 g.1.1 g.1.2 g.2.1.1 g.2.1.2 g.2.2.1.1 g.2.2.1.2 g.2.2.2.1 g.2.2.2.2 hk
end Go.Proofs.Ytojglflamecnkaa.P
namespace Go.Proofs.Ytojglflamecnkaa.P
open Go.RowKit Go.Proofs.YtojglflamecnkaaW.PrintWords Go.Proofs.Ytojglflamecnkaa.Iso
set_option linter.unusedVariables false
set_option linter.unusedSimpArgs false
def okB (s : ByteArray) : Bool := decide (s.size ≤ 8) && Iso.alnum (bl s)
theorem hereB_ok {p : PieceR} {t : List PieceR} (h : okB p.f1 = true) : hereB (p :: t) = p.f1 := by
  unfold okB at h
  simp only [Bool.and_eq_true, decide_eq_true_eq] at h
  rw [hereB_cons, if_pos h]
theorem okB_ne {s : ByteArray} (h : okB s = true) : s.toList.isEmpty = false := by
  cases c : s.toList.isEmpty with
  | false => rfl
  | true =>
    rw [List.isEmpty_iff, bl_toList] at c
    unfold okB Iso.alnum at h
    rw [c] at h
    simp [cls] at h
theorem oneB_ok {q : ByteArray → Bool} {p : PieceR} {t : List PieceR} (h : okB p.f1 = true) : oneQb q (p :: t) = q p.f1 := by
  unfold oneQb
  rw [hereB_ok h, okB_ne h]; rfl
abbrev txs (ps : List PieceR) : List ByteArray := ps.map (·.f1)
def noneB (q : ByteArray → Bool) (ps : List PieceR) : Prop := oneQb q ps = false
theorem noneB_ok {q : ByteArray → Bool} {p : PieceR} {t : List PieceR} (h : okB p.f1 = true) (hq : q p.f1 = false) : noneB q (p :: t) := by
  unfold noneB; rw [oneB_ok h]; exact hq
theorem noneB_nil {q : ByteArray → Bool} : noneB q [] := by
  unfold noneB oneQb
  rw [show (hereB []).toList.isEmpty = true by simp [hereB, Go.ByteArray.toList_eq]]
  rfl
theorem rowL_app (q : ByteArray → Bool) : ∀ (A R : List PieceR), (∀ p ∈ A, okB p.f1 = true ∧ q p.f1 = true) → noneB q R → rowL q (A ++ R) = txs A ∧ rowT q (A ++ R) = R
  | [], R, _, hR => by
    rw [List.nil_append]
    exact rowL_no hR
  | p :: t, R, hA, hR => by
    obtain ⟨h1, h2⟩ := hA p (List.mem_cons_self)
    obtain ⟨i1, i2⟩ := rowL_app q t R (fun x hx => hA x (List.mem_cons_of_mem _ hx)) hR
    have ho : oneQb q (p :: (t ++ R)) = true := by rw [oneB_ok h1]; exact h2
    constructor
    · rw [List.cons_append, rowL, if_pos ho, hereB_ok h1, i1]; rfl
    · rw [List.cons_append, rowT, if_pos ho, i2]
theorem isExtl_alnum {s : Str} (h : isExtl s = true) : Iso.alnum s = true ∧ s.length = 3 := by
  unfold isExtl alpha at h
  simp only [Bool.and_eq_true, decide_eq_true_eq] at h
  exact ⟨by unfold Iso.alnum; rw [h.1]; decide, h.2⟩
theorem extL_app : ∀ (A R : List PieceR) (n : Nat), A.length ≤ n → (∀ p ∈ A, okB p.f1 = true ∧ isExtl (bl p.f1) = true) → isExtl (bl (hereB R)) = false → extL n (A ++ R) = txs A ∧ extT n (A ++ R) = R
  | [], R, n, _, _, hR => by rw [List.nil_append]; exact extL_no hR
  | p :: t, R, 0, hn, _, _ => absurd hn (by simp)
  | p :: t, R, n + 1, hn, hA, hR => by
    obtain ⟨h1, h2⟩ := hA p (List.mem_cons_self)
    obtain ⟨i1, i2⟩ := extL_app t R n (by simpa using hn) (fun x hx => hA x (List.mem_cons_of_mem _ hx)) hR
    have h3 := extL_yes (n := n) (p := p) (t := t ++ R) (by rw [hereB_ok h1]; exact h2)
    rw [List.cons_append, h3.1, h3.2, hereB_ok h1, i1, i2]
    exact ⟨rfl, rfl⟩
theorem varR_app : ∀ (A R : List PieceR) (acc : List ByteArray), (∀ p ∈ A, okB p.f1 = true ∧ Iso.isVar (bl p.f1) = true) → (acc.map bl ++ (txs A).map bl).Nodup → noneB qVar R → varR acc (A ++ R) = (acc ++ txs A, R, false)
  | [], R, acc, _, _, hR => by
    rw [List.nil_append, varR_no hR]
    show _ = (acc ++ [], R, false)
    rw [List.append_nil]
  | p :: t, R, acc, hA, hd, hR => by
    obtain ⟨h1, h2⟩ := hA p (List.mem_cons_self)
    have hnm : ¬ (bl p.f1 ∈ acc.map bl) := fun hm => by
      have := (List.nodup_append.1 hd).2.2 _ hm (bl p.f1) (by show bl p.f1 ∈ bl p.f1 :: _; exact List.mem_cons_self)
      exact this rfl
    have ho : oneQb (fun s => Iso.isVar (bl s)) (p :: (t ++ R)) = true := by rw [oneB_ok h1]; exact h2
    rw [List.cons_append, varR, if_pos ho, hereB_ok h1, if_neg hnm]
    rw [varR_app t R (acc ++ [p.f1]) (fun x hx => hA x (List.mem_cons_of_mem _ hx)) (by simpa [List.append_assoc] using hd) hR]
    rw [List.append_assoc]; rfl
theorem extF_app : ∀ (xs : List S62) (A R : List PieceR) (n : Nat) (acc : List S62), (A ++ R).length ≤ n → txs A = xs.flatMap (fun x => x.f0 :: x.f1) →
    (∀ x ∈ xs, okB x.f0 = true ∧ Iso.isSing (bl x.f0) = true ∧ x.f1 ≠ [] ∧ ∀ s ∈ x.f1, okB s = true ∧ qTwo s = true) → (keysOf acc ++ keysOf xs).Nodup → noneB isSi R → noneB qTwo R → extF n acc (A ++ R) = (acc ++ xs, R, 0)
  | [], A, R, n, acc, hn, hA, _, _, hR, _ => by
    have : A = [] := by simpa using hA
    subst this
    rw [List.nil_append, extF_no hR, List.append_nil]
  | x :: xs, A, R, n, acc, hn, hA, hx, hd, hR, hR2 => by
    obtain ⟨k1, k2, k3, k4⟩ := hx x (List.mem_cons_self)
    rw [List.flatMap_cons, List.cons_append] at hA
    obtain ⟨p, A1, rfl, hp, hA1⟩ := List.map_eq_cons_iff.1 hA
    obtain ⟨A2, A3, rfl, hA2, hA3⟩ := List.map_eq_append_iff.1 hA1
    obtain ⟨m, rfl⟩ : ∃ m, n = m + 1 := ⟨n - 1, by simp at hn; omega⟩
    have ok2 : ∀ q ∈ A2, okB q.f1 = true ∧ qTwo q.f1 = true := fun q hq => k4 _ (by rw [← hA2]; exact List.mem_map_of_mem hq)
    have hnx : noneB qTwo (A3 ++ R) := by
      cases xs with
      | nil =>
        have : A3 = [] := by simpa using hA3
        rw [this, List.nil_append]; exact hR2
      | cons y ys =>
        rw [List.flatMap_cons, List.cons_append] at hA3
        obtain ⟨p3, A4, rfl, hp3, _⟩ := List.map_eq_cons_iff.1 hA3
        obtain ⟨y1, y2, _⟩ := hx y (by simp)
        refine noneB_ok (by rw [hp3]; exact y1) ?_
        rw [hp3]
        unfold Iso.isSing at y2
        simp only [Bool.and_eq_true, decide_eq_true_eq] at y2
        have := y2.1.2
        rw [bl_len] at this
        exact decide_eq_false (by omega)
    obtain ⟨r1, r2⟩ := rowL_app qTwo A2 (A3 ++ R) ok2 hnx
    have ho : oneQb isSi (p :: (A2 ++ A3 ++ R)) = true := by
      rw [oneB_ok (by rw [hp]; exact k1)]
      show Iso.isSing (bl p.f1) = true
      rw [hp]; exact k2
    have hh : hereB (p :: (A2 ++ A3 ++ R)) = x.f0 := by rw [hereB_ok (by rw [hp]; exact k1), hp]
    have hnm : ¬ (bl x.f0 ∈ keysOf acc) := fun hm => by
      have := (List.nodup_append.1 hd).2.2 _ hm (bl x.f0) (by show bl x.f0 ∈ bl x.f0 :: _; exact List.mem_cons_self)
      exact this rfl
    have hne : ¬ ((rowL qTwo (A2 ++ A3 ++ R)).isEmpty = true) := by
      rw [List.append_assoc, r1, List.isEmpty_iff, show txs A2 = x.f1 from hA2]; exact k3
    rw [List.cons_append, extF, if_pos ho, hh, if_neg hnm, if_neg hne, List.append_assoc, r1, r2, show txs A2 = x.f1 from hA2]
    rw [extF_app xs A3 R m (acc ++ [x]) (by simp at hn ⊢; omega) hA3 (fun y hy => hx y (List.mem_cons_of_mem _ hy)) (by
      show (keysOf (acc ++ [x]) ++ keysOf xs).Nodup
      unfold keysOf at hd ⊢
      simpa [List.append_assoc] using hd) hR hR2]
    rw [List.append_assoc]; rfl
structure ShapeT (T : TG) : Prop where
  lang : okB T.lang = true ∧ Iso.isLang (bl T.lang) = true
  ext : T.ext.length ≤ 3 ∧ (∀ s ∈ T.ext, okB s = true ∧ isExtl (bl s) = true) ∧ (T.ext ≠ [] → T.lang.size ≤ 3)
  script : T.script = ⟨#[]⟩ ∨ okB T.script = true ∧ Iso.isScr (bl T.script) = true
  region : T.region = ⟨#[]⟩ ∨ okB T.region = true ∧ Iso.isReg (bl T.region) = true
  vars : (∀ s ∈ T.vars, okB s = true ∧ Iso.isVar (bl s) = true) ∧ (T.vars.map bl).Nodup
  exts : (∀ x ∈ T.exts, okB x.f0 = true ∧ Iso.isSing (bl x.f0) = true ∧ x.f1 ≠ [] ∧ ∀ s ∈ x.f1, okB s = true ∧ qTwo s = true) ∧ (keysOf T.exts).Nodup
def EndR (R : List PieceR) : Prop := R = [] ∨ bl (hereB R) = [120]
theorem endR_none {R : List PieceR} (h : EndR R) {q : ByteArray → Bool} (hq : q ⟨#[120]⟩ = false) : noneB q R := by
  rcases h with rfl | h
  · exact noneB_nil
  · unfold noneB oneQb
    rw [x_eq h, hq, Bool.and_false]
theorem endR_extl {R : List PieceR} (h : EndR R) : isExtl (bl (hereB R)) = false := by
  rcases h with rfl | h
  · exact isExtl_nil
  · rw [h]; decide
abbrev opt1 (s : ByteArray) : List ByteArray := if s = ⟨#[]⟩ then [] else [s]
def headL (T : TG) : List ByteArray := T.lang :: (T.ext ++ (opt1 T.script ++ (opt1 T.region ++ (T.vars ++ T.exts.flatMap (fun x => x.f0 :: x.f1)))))
theorem lang_fits {T : TG} (h : ShapeT T) : ¬ (bl T.lang = [120]) := fun e => by
  have := h.lang.2
  rw [e] at this
  revert this; decide
theorem none_app {q : ByteArray → Bool} {A R : List PieceR} (hA : ∀ p ∈ A, okB p.f1 = true ∧ q p.f1 = false) (hR : noneB q R) : noneB q (A ++ R) := by
  cases A with
  | nil => exact hR
  | cons p t => exact noneB_ok (hA p List.mem_cons_self).1 (hA p List.mem_cons_self).2
theorem none_extl {A R : List PieceR} (hA : ∀ p ∈ A, okB p.f1 = true ∧ isExtl (bl p.f1) = false) (hR : isExtl (bl (hereB R)) = false) : isExtl (bl (hereB (A ++ R))) = false := by
  cases A with
  | nil => exact hR
  | cons p t => rw [List.cons_append, hereB_ok (hA p List.mem_cons_self).1]; exact (hA p List.mem_cons_self).2
theorem lens_of {s : Str} : (Iso.isScr s = true → s.length = 4 ∧ alpha s = true) ∧ (Iso.isReg s = true → s.length = 2 ∨ s.length = 3 ∧ digit s = true) ∧ (Iso.isVar s = true → 5 ≤ s.length ∨ s.length = 4 ∧ digit (s.take 1) = true) ∧ (Iso.isSing s = true → s.length = 1) := by
  refine ⟨fun h => ?_, fun h => ?_, fun h => ?_, fun h => ?_⟩
  · unfold Iso.isScr at h
    simp only [Bool.and_eq_true, decide_eq_true_eq] at h
    exact ⟨h.2, h.1⟩
  · unfold Iso.isReg at h
    simp only [Bool.or_eq_true, Bool.and_eq_true, decide_eq_true_eq] at h
    rcases h with h | h
    · exact .inl h.2
    · exact .inr ⟨h.2, h.1⟩
  · unfold Iso.isVar at h
    simp only [Bool.or_eq_true, Bool.and_eq_true, decide_eq_true_eq] at h
    rcases h.2 with h | h
    · exact .inl h.1
    · exact .inr h
  · unfold Iso.isSing at h
    simp only [Bool.and_eq_true, decide_eq_true_eq] at h
    exact h.1.2
theorem cls_two {s : Str} (h : cls s = 2) : s.all isDg = true := by
  unfold cls at h
  split at h
  · cases h
  · split at h
    · split at h
      · cases h
      · split at h
        · rename_i c; exact c
        · cases h
    · cases h
theorem cls_one {s : Str} (h : cls s = 1) : s.all isAl = true ∧ s ≠ [] := by
  unfold cls at h
  split at h
  · cases h
  · rename_i c0
    split at h
    · split at h
      · rename_i c; exact ⟨c, c0⟩
      · split at h <;> cases h
    · cases h
theorem dg_al (c : UInt8) : (isDg c && isAl c) = false := of_decide_eq_true (byte_all (fun c => decide ((isDg c && isAl c) = false)) (by decide +kernel) c)
theorem alpha_digit {s : Str} (h1 : alpha s = true) (h2 : digit (s.take 1) = true) : False := by
  unfold alpha at h1
  unfold digit at h2
  simp only [decide_eq_true_eq] at h1 h2
  obtain ⟨ha, hn⟩ := cls_one h1
  have hd := cls_two h2
  cases s with
  | nil => exact hn rfl
  | cons c t =>
    simp only [List.all_cons, Bool.and_eq_true] at ha
    simp only [List.take_succ_cons, List.take_zero, List.all_cons, Bool.and_eq_true] at hd
    have := dg_al c
    rw [hd.1, ha.1] at this
    cases this
theorem alpha_digit' {s : Str} (h1 : alpha s = true) (h2 : digit s = true) : False := by
  unfold alpha at h1
  unfold digit at h2
  simp only [decide_eq_true_eq] at h1 h2
  rw [h1] at h2; cases h2
theorem scr_not {s : Str} (h : Iso.isScr s = true) : isExtl s = false := by
  have := (lens_of.1 h).1
  unfold isExtl
  rw [this]; simp
theorem reg_not {s : Str} (h : Iso.isReg s = true) : isExtl s = false ∧ Iso.isScr s = false := by
  constructor
  · cases c : isExtl s with
    | false => rfl
    | true =>
      exfalso
      unfold isExtl at c
      simp only [Bool.and_eq_true, decide_eq_true_eq] at c
      rcases lens_of.2.1 h with h2 | h2
      · omega
      · exact alpha_digit' c.1 h2.2
  · cases c : Iso.isScr s with
    | false => rfl
    | true =>
      have := (lens_of.1 c).1
      rcases lens_of.2.1 h with h2 | h2 <;> omega
theorem var_not {s : Str} (h : Iso.isVar s = true) : isExtl s = false ∧ Iso.isScr s = false ∧ Iso.isReg s = false := by
  have hl := lens_of.2.2.1 h
  refine ⟨?_, ?_, ?_⟩
  · cases c : isExtl s with
    | false => rfl
    | true => have := (isExtl_alnum c).2; omega
  · cases c : Iso.isScr s with
    | false => rfl
    | true =>
      have := lens_of.1 c
      rcases hl with h2 | h2
      · omega
      · exact (alpha_digit this.2 h2.2).elim
  · cases c : Iso.isReg s with
    | false => rfl
    | true => have := lens_of.2.1 c; omega
theorem one_not {s : Str} (h : s.length = 1) : isExtl s = false ∧ Iso.isScr s = false ∧ Iso.isReg s = false ∧ Iso.isVar s = false := by
  refine ⟨?_, ?_, ?_, ?_⟩
  · cases c : isExtl s with
    | false => rfl
    | true => have := (isExtl_alnum c).2; omega
  · cases c : Iso.isScr s with
    | false => rfl
    | true => have := (lens_of.1 c).1; omega
  · cases c : Iso.isReg s with
    | false => rfl
    | true => have := lens_of.2.1 c; omega
  · cases c : Iso.isVar s with
    | false => rfl
    | true => have := lens_of.2.2.1 c; omega
theorem opt_one {q : ByteArray → Bool} {s : ByteArray} {A R : List PieceR} (hA : txs A = opt1 s) (hs : s = ⟨#[]⟩ ∨ okB s = true ∧ q s = true) (hR : noneB q R) : oneV q (A ++ R) = s ∧ oneT q (A ++ R) = R := by
  unfold oneV oneT
  by_cases c : s = ⟨#[]⟩
  · rw [opt1, if_pos c] at hA
    have : A = [] := by simpa using hA
    subst this
    rw [List.nil_append, show oneQb q R = false from hR, c]
    exact ⟨rfl, rfl⟩
  · rw [opt1, if_neg c] at hA
    obtain ⟨h1, h2⟩ := hs.resolve_left c
    obtain ⟨p, A1, rfl, hp, hA1⟩ := List.map_eq_cons_iff.1 hA
    have : A1 = [] := by simpa using hA1
    subst this
    rw [List.cons_append, List.nil_append, oneB_ok (by rw [hp]; exact h1), hp, h2, if_pos rfl, if_pos rfl, hereB_ok (by rw [hp]; exact h1), hp]
    exact ⟨rfl, rfl⟩
set_option maxHeartbeats 1000000 in
/-- A right tag's texts, and what stands behind: all goes to the tag's rows. -/
theorem all_head {T : TG} (h : ShapeT T) (E : Int) (H R : List PieceR) (hH : txs H = headL T) (hR : EndR R) : allR E (H ++ R) = tailR E { T with priv := [], grand := ⟨#[]⟩ } R := by
  obtain ⟨pl, A1, rfl, hpl, hA1⟩ := List.map_eq_cons_iff.1 hH
  obtain ⟨XE, A2, rfl, hXE, hA2⟩ := List.map_eq_append_iff.1 hA1
  obtain ⟨XS, A3, rfl, hXS, hA3⟩ := List.map_eq_append_iff.1 hA2
  obtain ⟨XR, A4, rfl, hXR, hA4⟩ := List.map_eq_append_iff.1 hA3
  obtain ⟨XV, XX, rfl, hXV, hXX⟩ := List.map_eq_append_iff.1 hA4
  have okl : okB pl.f1 = true := by rw [hpl]; exact h.lang.1
  have hh : ∀ t, hereB (pl :: t) = T.lang := fun t => by rw [hereB_ok okl, hpl]
  -- what may stand behind each
  have mem : ∀ {A : List PieceR} {l : List ByteArray} {P : ByteArray → Prop}, txs A = l → (∀ s ∈ l, P s) → ∀ p ∈ A, P p.f1 := fun e hP p hp => hP _ (by rw [← e]; exact List.mem_map_of_mem hp)
  have oV : ∀ p ∈ XV, okB p.f1 = true ∧ Iso.isVar (bl p.f1) = true := mem (P := fun s => okB s = true ∧ Iso.isVar (bl s) = true) hXV h.vars.1
  have fx : XX = [] ∨ ∃ p t, XX = p :: t ∧ okB p.f1 = true ∧ Iso.isSing (bl p.f1) = true := by
    cases hx : T.exts with
    | nil =>
      rw [hx] at hXX
      exact .inl (by simpa using hXX)
    | cons y ys =>
      rw [hx, List.flatMap_cons, List.cons_append] at hXX
      obtain ⟨p, A5, e5, hp, _⟩ := List.map_eq_cons_iff.1 hXX
      have := h.exts.1 y (by rw [hx]; exact List.mem_cons_self)
      exact .inr ⟨p, A5, e5, by rw [hp]; exact this.1, by rw [hp]; exact this.2.1⟩
  have nX : ∀ {q : ByteArray → Bool}, q ⟨#[120]⟩ = false → (∀ s : ByteArray, (bl s).length = 1 → q s = false) → noneB q (XX ++ R) := by
    intro q q0 q1
    rcases fx with e | ⟨p, t, e, h1, h2⟩
    · rw [e, List.nil_append]; exact endR_none hR q0
    · rw [e, List.cons_append]
      exact noneB_ok h1 (q1 _ (lens_of.2.2.2 h2))
  have eX : isExtl (bl (hereB (XX ++ R))) = false := by
    rcases fx with e | ⟨p, t, e, h1, h2⟩
    · rw [e, List.nil_append]; exact endR_extl hR
    · rw [e, List.cons_append, hereB_ok h1]
      exact (one_not (lens_of.2.2.2 h2)).1
  have nVar : noneB qVar (XX ++ R) := nX (by decide) (fun s hs => (one_not hs).2.2.2)
  have nReg : noneB qReg (XV ++ (XX ++ R)) := none_app (fun p hp => ⟨(oV p hp).1, (var_not (oV p hp).2).2.2⟩) (nX (by decide) (fun s hs => (one_not hs).2.2.1))
  have mR : ∀ p ∈ XR, okB p.f1 = true ∧ Iso.isReg (bl p.f1) = true := mem (P := fun s => okB s = true ∧ Iso.isReg (bl s) = true) hXR (fun s hs => by
    unfold opt1 at hs
    split at hs
    · cases hs
    · rename_i c
      rw [List.mem_singleton.1 hs]; exact h.region.resolve_left c)
  have mS : ∀ p ∈ XS, okB p.f1 = true ∧ Iso.isScr (bl p.f1) = true := mem (P := fun s => okB s = true ∧ Iso.isScr (bl s) = true) hXS (fun s hs => by
    unfold opt1 at hs
    split at hs
    · cases hs
    · rename_i c
      rw [List.mem_singleton.1 hs]; exact h.script.resolve_left c)
  have nScr : noneB qScr (XR ++ (XV ++ (XX ++ R))) := none_app (fun p hp => ⟨(mR p hp).1, (reg_not (mR p hp).2).2⟩) (none_app (fun p hp => ⟨(oV p hp).1, (var_not (oV p hp).2).2.1⟩) (nX (by decide) (fun s hs => (one_not hs).2.1)))
  have nExt : isExtl (bl (hereB (XS ++ (XR ++ (XV ++ (XX ++ R)))))) = false :=
    none_extl (fun p hp => ⟨(mS p hp).1, scr_not (mS p hp).2⟩) (none_extl (fun p hp => ⟨(mR p hp).1, (reg_not (mR p hp).2).1⟩) (none_extl (fun p hp => ⟨(oV p hp).1, (var_not (oV p hp).2).1⟩) eX))
  have eq : pl :: (XE ++ (XS ++ (XR ++ (XV ++ XX)))) ++ R = pl :: (XE ++ (XS ++ (XR ++ (XV ++ (XX ++ R))))) := by simp
  rw [eq]
  have hx0 : ¬ (bl (hereB (pl :: (XE ++ (XS ++ (XR ++ (XV ++ (XX ++ R))))))) = [120]) := by rw [hh]; exact lang_fits h
  have hlg : oneQb qLang (pl :: (XE ++ (XS ++ (XR ++ (XV ++ (XX ++ R)))))) = true := by
    rw [oneB_ok okl]
    show Iso.isLang (bl pl.f1) = true
    rw [hpl]; exact h.lang.2
  have hX : lgX (pl :: (XE ++ (XS ++ (XR ++ (XV ++ (XX ++ R)))))) = T.ext ∧ lgT (pl :: (XE ++ (XS ++ (XR ++ (XV ++ (XX ++ R)))))) = XS ++ (XR ++ (XV ++ (XX ++ R))) := by
    unfold lgX lgT
    rw [hh]
    show (if T.lang.size ≤ 3 then extL 3 (XE ++ (XS ++ (XR ++ (XV ++ (XX ++ R))))) else []) = T.ext ∧ (if T.lang.size ≤ 3 then extT 3 (XE ++ (XS ++ (XR ++ (XV ++ (XX ++ R))))) else XE ++ (XS ++ (XR ++ (XV ++ (XX ++ R))))) = _
    by_cases c : T.lang.size ≤ 3
    · rw [if_pos c, if_pos c]
      have := extL_app XE (XS ++ (XR ++ (XV ++ (XX ++ R)))) 3 (by have := h.ext.1; rw [← hXE, List.length_map] at this; exact this) (mem (P := fun s => okB s = true ∧ isExtl (bl s) = true) hXE h.ext.2.1) nExt
      rw [this.1, this.2, show txs XE = T.ext from hXE]
      exact ⟨rfl, rfl⟩
    · rw [if_neg c, if_neg c]
      have e : T.ext = [] := by
        by_cases e : T.ext = []
        · exact e
        · exact absurd (h.ext.2.2 e) c
      have e2 : XE = [] := by rw [e] at hXE; simpa using hXE
      rw [e, e2]
      exact ⟨rfl, rfl⟩
  obtain ⟨s1, s2⟩ := opt_one (q := qScr) hXS h.script nScr
  obtain ⟨r1, r2⟩ := opt_one (q := qReg) hXR h.region nReg
  have v1 := varR_app XV (XX ++ R) [] oV (by rw [show txs XV = T.vars from hXV]; exact h.vars.2) nVar
  have x1 : exR (XX ++ R) = (T.exts, R, 0) := by
    unfold exR
    have := extF_app T.exts XX R (XX ++ R).length [] (Nat.le_refl _) hXX h.exts.1 h.exts.2 (endR_none hR (by decide)) (endR_none hR (by decide))
    rw [this]; rfl
  rw [allR, if_neg hx0, if_pos hlg, hX.1, hX.2, hh, midR]
  dsimp only
  rw [s1, s2, r1, r2, v1]
  dsimp only
  rw [x1]
  dsimp only
  rw [if_neg (by decide), if_neg (by decide), if_neg (by decide), show txs XV = T.vars from hXV]
  rfl
end Go.Proofs.Ytojglflamecnkaa.P
namespace Go.Proofs.Ytojglflamecnkaa.P
open Go.RowKit Go.Proofs.YtojglflamecnkaaW.PrintWords Go.Proofs.Ytojglflamecnkaa.Iso
set_option linter.unusedVariables false
set_option linter.unusedSimpArgs false
def offP (a : Nat) (t : Str) : List PieceR := (eachGo a [] t).map fun p => ⟨(p.1 : Int), mk (low p.2)⟩
theorem piecesOf_off (s : ByteArray) : piecesOf s = offP 0 (bl s) := by
  unfold piecesOf offP eachB each mkP
  rw [List.map_map]; rfl
theorem txs_off (a : Nat) (t : Str) : txs (offP a t) = (split t).map fun p => mk (low p) := by
  unfold offP txs
  rw [List.map_map, split_sp, ← eachGo_sp t a [], List.map_map]; rfl
theorem oneB_any {p : PieceR} {t : List PieceR} : oneQb qAny (p :: t) = okB p.f1 := by
  cases c : okB p.f1 with
  | true => rw [oneB_ok c]
  | false =>
    unfold oneQb
    have : ¬ (p.f1.size ≤ 8 ∧ Iso.alnum (bl p.f1) = true) := fun h => by
      unfold okB at c
      rw [decide_eq_true h.1, h.2] at c; cases c
    rw [hereB_cons, if_neg this]
    simp [Go.ByteArray.toList_eq]
theorem any_all {ps : List PieceR} (h : ∀ p ∈ ps, okB p.f1 = true) : rowL qAny ps = txs ps ∧ rowT qAny ps = [] := by
  have := rowL_app qAny ps [] (fun p hp => ⟨h p hp, rfl⟩) noneB_nil
  rwa [List.append_nil] at this
theorem any_not : ∀ {ps : List PieceR}, ¬ (∀ p ∈ ps, okB p.f1 = true) → ∃ p t, rowT qAny ps = p :: t ∧ p ∈ ps
  | [], h => absurd (fun p hp => by cases hp) h
  | p :: t, h => by
    cases c : okB p.f1 with
    | false =>
      refine ⟨p, t, ?_, List.mem_cons_self⟩
      rw [rowT, if_neg (by rw [oneB_any, c]; decide)]
    | true =>
      obtain ⟨q, u, e, hq⟩ := any_not (ps := t) (fun h2 => h (fun x hx => by
        rcases List.mem_cons.1 hx with rfl | hx
        · exact c
        · exact h2 x hx))
      refine ⟨q, u, ?_, List.mem_cons_of_mem _ hq⟩
      rw [rowT, if_pos (by rw [oneB_any, c]), e]
theorem tail_x {E : Int} {T : TG} {X : PieceR} {ps : List PieceR} {n : Int} (hX : bl (hereB (X :: ps)) = [120]) (hne : ps ≠ []) (hge : ∀ p ∈ ps, n ≤ p.f0) :
    ((∀ p ∈ ps, okB p.f1 = true) → tailR E T (X :: ps) = .good { T with priv := txs ps }) ∧ (¬ (∀ p ∈ ps, okB p.f1 = true) → ∃ a w, tailR E T (X :: ps) = .bad 10 a w ∧ n ≤ a) := by
  constructor
  · intro h
    obtain ⟨e1, e2⟩ := any_all h
    rw [tailR, if_pos hX, List.drop_one, List.tail_cons, e1, e2]
    rw [if_neg (by
      intro c
      rw [List.isEmpty_iff] at c
      exact hne (List.map_eq_nil_iff.1 c))]
    rfl
  · intro h
    obtain ⟨q, u, e, hq⟩ := any_not h
    rw [tailR, if_pos hX, List.drop_one, List.tail_cons]
    by_cases c : (rowL qAny ps).isEmpty = true
    · rw [if_pos c]
      cases ps with
      | nil => exact absurd rfl hne
      | cons p t => exact ⟨_, _, rfl, hge p List.mem_cons_self⟩
    · rw [if_neg c, e]
      exact ⟨_, _, rfl, hge q hq⟩
theorem okB_low (p : Str) : okB (mk (low p)) = isSub p := by
  unfold okB isSub Iso.alnum
  rw [bl_mk, cls_low, mk_size, low_length, Bool.and_comm]
theorem not_grand {s : ByteArray} {p : Str} (hp : p ∈ split (low (bl s))) (hn : (nameL.all fun n => !(split (low n)).contains p) = true) : isGrand s = false := by
  cases c : isGrand s with
  | false => rfl
  | true =>
    exfalso
    unfold isGrand at c
    rw [Bool.and_eq_true, decide_eq_true_eq] at c
    obtain ⟨h1, h2⟩ := c
    unfold same at h2
    have e := of_decide_eq_true h2
    have hl : findI s < nameL.length := h1
    have hm : nameL.getD (findI s) [] ∈ nameL := by
      rw [List.getD_eq_getElem?_getD, List.getElem?_eq_getElem hl]
      exact List.getElem_mem hl
    have := List.all_eq_true.1 hn _ hm
    unfold nm at e
    rw [bl_mk] at e
    rw [e, Bool.not_eq_true', ← Bool.not_eq_true, List.contains_iff_mem] at this
    exact this hp
theorem some1_opt (s : ByteArray) : some1 s = opt1 s := by
  unfold some1 opt1
  have : s.toList = ([] : List UInt8) ↔ s = ⟨#[]⟩ := by
    rw [Go.ByteArray.toList_eq]
    constructor
    · intro h
      exact bl_inj (show bl s = bl ⟨#[]⟩ from h)
    · intro h; rw [h]
  by_cases c : s = ⟨#[]⟩
  · rw [if_pos (this.2 c), if_pos c]
  · rw [if_neg (fun h => c (this.1 h)), if_neg c]
theorem subL_head {T : TG} (h : T.lang ≠ ⟨#[]⟩) : subL T.lang T.ext T.script T.region T.vars T.exts T.priv = headL T ++ (if T.priv = [] then [] else ⟨#[120]⟩ :: T.priv) := by
  unfold subL headL
  rw [some1_opt, some1_opt, some1_opt, show opt1 T.lang = [T.lang] from by unfold opt1; rw [if_neg h]]
  simp only [List.append_assoc, List.cons_append, List.nil_append]
def plainB (s : ByteArray) : Bool := decide (low (bl s) = bl s) && (bl s).all (fun c => decide (c ≠ 45))
theorem plainB_dash {s : ByteArray} (h : plainB s = true) : noDash (bl s) := by
  unfold plainB at h
  rw [Bool.and_eq_true] at h
  intro c hc
  exact of_decide_eq_true (List.all_eq_true.1 h.2 c hc)
theorem plainB_low {s : ByteArray} (h : plainB s = true) : low (bl s) = bl s := by
  unfold plainB at h
  rw [Bool.and_eq_true] at h
  exact of_decide_eq_true h.1
theorem txs_join {l : List ByteArray} (hne : l ≠ []) (h : ∀ s ∈ l, plainB s = true) (a : Nat) : txs (offP a (joinL (l.map bl))) = l := by
  rw [txs_off, split_joinL _ (fun e => hne (List.map_eq_nil_iff.1 e)) (fun p hp => by
    obtain ⟨s, hs, rfl⟩ := List.mem_map.1 hp
    exact plainB_dash (h s hs)), List.map_map]
  conv => rhs; rw [← List.map_id l]
  exact List.map_congr_left fun s hs => by
    show mk (low (bl s)) = s
    rw [plainB_low (h s hs), mk_bl]
end Go.Proofs.Ytojglflamecnkaa.P
namespace Go.Proofs.Ytojglflamecnkaa.P
open Go.RowKit Go.Proofs.YtojglflamecnkaaW.PrintWords Go.Proofs.Ytojglflamecnkaa.Iso
set_option linter.unusedVariables false
set_option linter.unusedSimpArgs false
theorem base_ext {B : TG} {l6 : List Int} (h : BaseT B l6) : B.ext.length ≤ 1 ∧ (∀ s ∈ B.ext, s ∈ extlL) ∧ (B.ext ≠ [] → B.lang.size ≤ 3) := by
  rcases h.ext with e | ⟨hl, s, hs, e⟩
  · rw [e]; simp
  · rw [e]
    exact ⟨by simp, fun x hx => by rw [List.mem_singleton.1 hx]; exact hs, fun _ => hl⟩
theorem base_exts {B : TG} {l6 : List Int} (h : BaseT B l6) : ∀ x ∈ B.exts, x.f0 ∈ keysL ∧ SubsOk x.f1 := fun x hx => by
  obtain ⟨j, hj⟩ := List.getElem?_of_mem hx
  exact ⟨List.mem_of_getElem? (h.exts.2 j x hj).1, (h.exts.2 j x hj).2⟩
theorem opt1_mem {s x : ByteArray} (h : x ∈ opt1 s) : x = s ∧ s ≠ ⟨#[]⟩ := by
  unfold opt1 at h
  split at h
  · cases h
  · rename_i c
    exact ⟨List.mem_singleton.1 h, c⟩
structure Small (T : TG) : Prop where
  ext : T.ext.length ≤ 1
  vars : T.vars.length ≤ 6
  exts : T.exts.length ≤ 5
  priv : T.priv.length ≤ 4
  subs : ∀ x ∈ T.exts, x.f1.length ≤ 4
theorem base_small {B : TG} {l6 : List Int} (h : BaseT B l6) (n : Int) : Small (spoiltT B n) := by
  have e1 := (base_ext h).1
  have v1 := h.vars.2.1
  have x1 := h.exts.1
  have p1 := h.priv.1
  have s1 : ∀ x ∈ B.exts, x.f1.length ≤ 4 := fun x hx => (base_exts h x hx).2.2.1
  have b : Small B := ⟨e1, by omega, by omega, by omega, s1⟩
  unfold spoiltT
  by_cases q1 : n = 1
  · rw [if_pos q1]; exact ⟨e1, by show (B.vars ++ _).length ≤ 6; rw [List.length_append]; simp; omega, b.exts, b.priv, s1⟩
  rw [if_neg q1]
  by_cases q2 : n = 2
  · rw [if_pos q2]; exact ⟨e1, b.vars, b.exts, b.priv, s1⟩
  rw [if_neg q2]
  by_cases q3 : n = 3
  · rw [if_pos q3]
    refine ⟨e1, b.vars, by show (B.exts ++ _).length ≤ 5; rw [List.length_append]; simp; omega, b.priv, fun x hx => ?_⟩
    rcases List.mem_append.1 hx with hx | hx
    · exact s1 x hx
    · rw [List.mem_singleton.1 hx]; simp
  rw [if_neg q3]
  by_cases q4 : n = 4
  · rw [if_pos q4]; exact ⟨e1, b.vars, b.exts, b.priv, s1⟩
  rw [if_neg q4]
  by_cases q5 : n = 5
  · rw [if_pos q5]; exact ⟨e1, b.vars, b.exts, b.priv, s1⟩
  rw [if_neg q5]
  by_cases q6 : n = 6
  · rw [if_pos q6]; exact ⟨e1, b.vars, b.exts, by show (B.priv ++ _).length ≤ 4; rw [List.length_append]; simp; omega, s1⟩
  rw [if_neg q6]
  by_cases q7 : n = 7
  · rw [if_pos q7]
    refine ⟨e1, b.vars, by show (B.exts ++ _).length ≤ 5; rw [List.length_append]; simp; omega, b.priv, fun x hx => ?_⟩
    rcases List.mem_append.1 hx with hx | hx
    · exact s1 x hx
    · rcases List.mem_cons.1 hx with rfl | hx
      · simp
      · rw [List.mem_singleton.1 hx]; simp
  rw [if_neg q7]
  by_cases q8 : n = 8
  · rw [if_pos q8]; exact ⟨e1, b.vars, b.exts, b.priv, s1⟩
  rw [if_neg q8]
  exact b
theorem flat5 (l : List S62) (h : ∀ x ∈ l, x.f1.length ≤ 4) : (l.flatMap fun x => x.f0 :: x.f1).length ≤ l.length * 5 := by
  induction l with
  | nil => simp
  | cons x t ih =>
    have h1 := h x List.mem_cons_self
    have h2 := ih fun y hy => h y (List.mem_cons_of_mem _ hy)
    simp only [List.flatMap_cons, List.length_append, List.length_cons] at h2 ⊢
    omega
theorem some1_le (s : ByteArray) : (some1 s).length ≤ 1 := by unfold some1; split <;> simp
theorem Small.len {T : TG} (h : Small T) : (subL T.lang T.ext T.script T.region T.vars T.exts T.priv).length ≤ 100 := by
  have h1 := some1_le T.lang
  have h2 := some1_le T.script
  have h3 := some1_le T.region
  have h4 := flat5 T.exts h.subs
  have h5 := h.ext
  have h6 := h.vars
  have h7 := h.exts
  have h8 := h.priv
  unfold subL
  have hp : (if T.priv = [] then [] else (⟨#[120]⟩ : ByteArray) :: T.priv).length ≤ 5 := by
    split
    · simp
    · simp only [List.length_cons]; omega
  simp only [List.length_append] at hp ⊢
  omega
theorem Small.text {T : TG} (h : Small T) (t : TxtS T) : (textT T).length ≤ 1300 := by
  unfold textT subsT subsL
  split
  · refine Nat.le_trans (joinL_len 12 _ fun p hp => ?_) (by rw [List.length_map]; have := h.len; omega)
    obtain ⟨s, hs, rfl⟩ := List.mem_map.1 hp
    rw [bl_len]
    exact t.sub s hs
  · rw [map_bl_mk, join_split, bl_len]
    have := t.grand
    omega
theorem sp_small : ∀ (s acc : Str), ∀ q ∈ sp acc s, q.length ≤ acc.length + s.length
  | [], acc, q, h => by
    rw [sp, List.mem_singleton] at h
    rw [h]; simp
  | c :: t, acc, q, h => by
    rw [sp] at h
    split at h
    · rcases List.mem_cons.1 h with rfl | h
      · simp
      · have := sp_small t [] q h
        simp at this ⊢; omega
    · have := sp_small t _ q h
      simp at this ⊢; omega
end Go.Proofs.Ytojglflamecnkaa.P
namespace Go.Proofs.Ytojglflamecnkaa.P
open Go.RowKit Go.Shelf Go.Proofs.YtojglflamecnkaaW.PrintWords Go.Proofs.YtojglflamecnkaaW.PrintLast Go.Proofs.YtojglflamecnkaaW.PrintMore Go.Proofs.Ytojglflamecnkaa.Iso
set_option linter.unusedVariables false
set_option linter.unusedSimpArgs false
theorem blk_alloc1 {w : World} {g : Nat} {o : Obj} (h : w.heap[g]? = some o) (q : Obj) : (w.alloc q).heap[g]? = some o := blk_on h (below_alloc (Below.refl _ _) _)
theorem cells8p {w : World} {g : Nat} {t : TypeId} {x0 x1 x2 x3 x4 x5 x6 x7 : Value} (h : w.heap[g]? = some (.cells #[x0, x1, x2, x3, x4, x5, x6, x7] t (0, 0))) : w.cell? ⟨g, 0, none⟩ = some x0 ∧ w.cell? ⟨g, 1, none⟩ = some x1 ∧ w.cell? ⟨g, 2, none⟩ = some x2 ∧ w.cell? ⟨g, 3, none⟩ = some x3 ∧ w.cell? ⟨g, 4, none⟩ = some x4 ∧ w.cell? ⟨g, 5, none⟩ = some x5 ∧ w.cell? ⟨g, 6, none⟩ = some x6 ∧ w.cell? ⟨g, 7, none⟩ = some x7 :=
  (C8_ h)
theorem sameL_refl : ∀ xs : List S62, sameL xs xs = true
  | [] => rfl
  | x :: xs => by unfold sameL sameX; rw [sameL_refl xs, decide_eq_true rfl, decide_eq_true rfl]; rfl
theorem sameT_refl (T : TG) : sameT T T = true := by
  unfold sameT; rw [sameL_refl]; simp
theorem lower02_calls (s : ByteArray) (hs : s.size ≤ 140737488355328) (W : World) : Calls Try.prog 12 #[.string s] W fun e W' => e = .returned (.string (mk (low (bl s)))) ∧ Below W.heap.size W W' := by
  obtain ⟨k, hk⟩ := (ref_Lower_ev s hs).rounds
  exact r2_Lower.calls k s _ W hk
theorem C_none (W : World) (A : Option Addr) (c : Nat) : Kd.C Kd.string W A ([] : List ByteArray).length ([] : List ByteArray) ∧ ([] : List ByteArray).length ≤ c := ⟨⟨rfl, by decide, fun h => absurd h (Nat.lt_irrefl _)⟩, Nat.zero_le _⟩
abbrev IntsC (W : World) (A : Option Addr) (c : Nat) (l : List Int) : Prop := Kd.C (Kd.int .i64) W A l.length l ∧ l.length ≤ c
theorem IntsC.below {W W' : World} {A : Option Addr} {c : Nat} {l : List Int} (h : IntsC W A c l) (hb : Below W.heap.size W W') : IntsC W' A c l := ⟨Kd.C_below h.1 hb, h.2⟩
theorem made_calls (a0 a1 a2 a3 : Int) (l4 l5 l6 : List Int) (a7 : Int) : ∃ B : TG, BaseT B l6 ∧ ∀ (A4 : Option Addr) (c4 : Nat) (A5 : Option Addr) (c5 : Nat) (A6 : Option Addr) (c6 : Nat) (W : World), IntsC W A4 c4 l4 → IntsC W A5 c5 l5 → IntsC W A6 c6 l6 →
    Calls Try.prog 15 #[.agg #[.int .i64 a0, .int .i64 a1, .int .i64 a2, .int .i64 a3, .slice A4 l4.length c4, .slice A5 l5.length c5, .slice A6 l6.length c6, .int .i64 a7]] W fun e W' => ∃ A1 c1 A4 c4 A5 c5 A6 c6, e = .returned (.agg (tagCells (spoiltT B (oddN a7)) A1 c1 A4 c4 A5 c5 A6 c6)) ∧ RowsC W' (spoiltT B (oddN a7)) A1 c1 A4 c4 A5 c5 A6 c6 ∧ Below W.heap.size W W' := by
  obtain ⟨r, hr, B, hB, e⟩ := Made_told a0 a1 a2 a3 l4 l5 l6 a7
  subst e
  obtain ⟨k, hk⟩ := hr.rounds
  exact ⟨B, hB, fun A4 c4 A5 c5 A6 c6 W h4 h5 h6 => Made_tag k a0 a1 a2 a3 A4 c4 l4 A5 c5 l5 A6 c6 l6 a7 _ W h4 h5 h6 hk⟩
end Go.Proofs.Ytojglflamecnkaa.P
