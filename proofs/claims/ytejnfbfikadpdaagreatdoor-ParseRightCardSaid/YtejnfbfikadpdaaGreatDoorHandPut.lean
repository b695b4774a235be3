/- What is stored into a parse's reader; its tag's rows that are appended to. -/
import Derived.Test.YtejnfbfikadpdaaGreatDoorHandRow
namespace Go.Proofs.YtejnfbfikadpdaaGreatDoor.P
open Go.RowKit Go.Shelf Go.Proofs.YtejnfbfikadpdaaGreatDoorW.PrintWords Go.Proofs.YtejnfbfikadpdaaGreatDoorW.PrintLast Go.Proofs.YtejnfbfikadpdaaGreatDoor.Iso
set_option linter.unusedVariables false
set_option linter.unusedSimpArgs false
section
variable {W w1 : World} {base : Nat} {v1 v4 v5 v6 u : Value} {l1 l4 l6 l : List ByteArray} {l5 : List S47}
theorem OwnT.app1 (h : OwnT W base v1 v4 v5 v6 l1 l4 l5 l6) (hg : W.grownBy w1 v1.ownBlock) (hat : u.ownBlock = v1.ownBlock ∨ ∃ b, u.ownBlock = some b ∧ W.heap.size ≤ b) (hr : Kd.R Kd.string 9 w1 base (fun k_ => some k_ ≠ v4.ownBlock ∧ some k_ ≠ v6.ownBlock) u l) : OwnT w1 base u v4 v5 v6 l l4 l5 l6 := by
  obtain ⟨h1, h4, h5, h6⟩ := h
  have g4 := Kd.R_after (ok := fun k_ => some k_ ≠ v6.ownBlock) (Kd.R_mono h4 (fun _ h => ⟨h.2, h.1⟩)) hg hat
  have g5 := Kd.S_after (ok := fun k_ => some k_ ≠ v4.ownBlock ∧ some k_ ≠ v6.ownBlock) (Kd.S_mono h5 (fun _ h => ⟨h.2, h.1⟩)) hg hat
  have g6 := Kd.R_after (ok := fun k_ => some k_ ≠ v4.ownBlock) (Kd.R_mono h6 (fun _ h => ⟨h.2, h.1⟩)) hg hat
  exact ⟨hr, Kd.R_mono g4 (fun _ h => ⟨h.2, h.1⟩), Kd.S_mono g5 (fun _ h => ⟨h.2, h.1⟩), Kd.R_mono g6 (fun _ h => ⟨h.2, h.1⟩)⟩
theorem OwnT.app4R (h : OwnT W base v1 v4 v5 v6 l1 l4 l5 l6) (hg : W.grownBy w1 v4.ownBlock) (hat : u.ownBlock = v4.ownBlock ∨ ∃ b, u.ownBlock = some b ∧ W.heap.size ≤ b) (hr : Kd.R Kd.string 9 w1 base (fun k_ => some k_ ≠ v1.ownBlock ∧ some k_ ≠ v6.ownBlock) u l) : OwnT w1 base v1 u v5 v6 l1 l l5 l6 := by
  obtain ⟨h1, h4, h5, h6⟩ := h
  have g1 := Kd.R_after (ok := fun k_ => some k_ ≠ v6.ownBlock) (Kd.R_mono h1 (fun _ h => ⟨h.2, h.1⟩)) hg hat
  have g5 := Kd.S_after (ok := fun k_ => some k_ ≠ v1.ownBlock ∧ some k_ ≠ v6.ownBlock) (Kd.S_mono h5 (fun _ h => ⟨⟨h.1, h.2.2⟩, h.2.1⟩)) hg hat
  have g6 := Kd.R_after (ok := fun k_ => some k_ ≠ v1.ownBlock) h6 hg hat
  exact ⟨Kd.R_mono g1 (fun _ h => ⟨h.2, h.1⟩), hr, Kd.S_mono g5 (fun _ h => ⟨h.1.1, h.2, h.1.2⟩), g6⟩
theorem OwnT.fresh1 (h : OwnT W base v1 v4 v5 v6 l1 l4 l5 l6) (k : Nat) (hk : W.heap.size ≤ k) : some k ≠ v4.ownBlock ∧ some k ≠ v6.ownBlock :=
  ⟨fun e => absurd (Kd.R_lt h.2.1 _ e.symm) (by omega), fun e => absurd (Kd.R_lt h.2.2.2 _ e.symm) (by omega)⟩
theorem OwnT.fresh4 (h : OwnT W base v1 v4 v5 v6 l1 l4 l5 l6) (k : Nat) (hk : W.heap.size ≤ k) : some k ≠ v1.ownBlock ∧ some k ≠ v6.ownBlock :=
  ⟨fun e => absurd (Kd.R_lt h.1 _ e.symm) (by omega), fun e => absurd (Kd.R_lt h.2.2.2 _ e.symm) (by omega)⟩
theorem OwnT.fresh5 (h : OwnT W base v1 v4 v5 v6 l1 l4 l5 l6) (k : Nat) (hk : W.heap.size ≤ k) : some k ≠ v1.ownBlock ∧ some k ≠ v4.ownBlock ∧ some k ≠ v6.ownBlock :=
  ⟨fun e => absurd (Kd.R_lt h.1 _ e.symm) (by omega), fun e => absurd (Kd.R_lt h.2.1 _ e.symm) (by omega), fun e => absurd (Kd.R_lt h.2.2.2 _ e.symm) (by omega)⟩
end
section
variable {w0 wp W w1 : World} {g : Nat} {ps : List PieceR} {E : Int} {T : TG} {v1 v4 v5 v6 u : Value} {l : List ByteArray} {l5 : List S47}
theorem Rd.putS (h : Rd w0 wp W g ps E T v1 v4 v5 v6) (j : Nat) (u : Value) (T' : TG) (h1 : T'.ext = T.ext) (h4 : T'.vars = T.vars) (h5 : T'.exts = T.exts) (h6 : T'.priv = T.priv) (hc : ∀ A c, (rdCells A ps.length c E T v1 v4 v5 v6).setIfInBounds j u = rdCells A ps.length c E T' v1 v4 v5 v6) : Rd w0 wp (W.setCell ⟨g, j, none⟩ u) g ps E T' v1 v4 v5 v6 := by
  obtain ⟨A, c, hg, hl, hp⟩ := h.cells
  refine ⟨h.lo, h.hi, by have := h.size; simpa using this, h.below.setCell (p := ⟨g, j, none⟩) h.lo _, ⟨A, c, blk_put hg j u (hc A c), hl, hp⟩, ?_, h.keep.set_ j _⟩
  rw [h1, h4, h5, h6]
  exact ownT_setR h.own hg j u
theorem Rd.grownK (h : Rd w0 wp W g ps E T v1 v4 v5 v6) (hb : Below wp.heap.size W w1) : KeepBut wp w1 g none ∧ Below w0.heap.size w0 w1 := by
  have hlo : w0.heap.size ≤ wp.heap.size := Nat.le_trans h.lo (Nat.le_of_lt h.hi)
  exact ⟨⟨Nat.le_trans h.size hb.size, fun i hi hne hr => (hb.block i hi).trans (h.keep.2 i hi hne hr)⟩, h.below.trans (below_lower hb hlo)⟩
theorem Rd.app1 (h : Rd w0 wp W g ps E T v1 v4 v5 v6) (hb : Below wp.heap.size W w1) (hg : W.grownBy w1 v1.ownBlock) (hat : u.ownBlock = v1.ownBlock ∨ ∃ b, u.ownBlock = some b ∧ W.heap.size ≤ b)
    (hr : Kd.R Kd.string 9 w1 wp.heap.size (fun k_ => some k_ ≠ v4.ownBlock ∧ some k_ ≠ v6.ownBlock) u l) : Rd w0 wp (w1.setCell ⟨g, 3, none⟩ u) g ps E { T with ext := l } u v4 v5 v6 := by
  obtain ⟨A, c, hgW, hl, hp⟩ := h.cells
  obtain ⟨hk, hb0⟩ := h.grownK hb
  have hg1 := blk_grown hgW hg (Kd.R_ne h.own.1 hgW (by decide))
  exact ⟨h.lo, h.hi, by have := Nat.le_trans h.size hb.size; simpa using this, hb0.setCell (p := ⟨g, 3, none⟩) h.lo _, ⟨A, c, blk_put hg1 3 u rfl, hl, hp⟩, ownT_setR (h.own.app1 hg hat hr) hg1 3 u, hk.set_ 3 _⟩
theorem Rd.app4 (h : Rd w0 wp W g ps E T v1 v4 v5 v6) (hb : Below wp.heap.size W w1) (hg : W.grownBy w1 v4.ownBlock) (hat : u.ownBlock = v4.ownBlock ∨ ∃ b, u.ownBlock = some b ∧ W.heap.size ≤ b)
    (hr : Kd.R Kd.string 9 w1 wp.heap.size (fun k_ => some k_ ≠ v1.ownBlock ∧ some k_ ≠ v6.ownBlock) u l) : Rd w0 wp (w1.setCell ⟨g, 6, none⟩ u) g ps E { T with vars := l } v1 u v5 v6 := by
  obtain ⟨A, c, hgW, hl, hp⟩ := h.cells
  obtain ⟨hk, hb0⟩ := h.grownK hb
  have hg1 := blk_grown hgW hg (Kd.R_ne h.own.2.1 hgW (by decide))
  exact ⟨h.lo, h.hi, by have := Nat.le_trans h.size hb.size; simpa using this, hb0.setCell (p := ⟨g, 6, none⟩) h.lo _, ⟨A, c, blk_put hg1 6 u rfl, hl, hp⟩, ownT_setR (h.own.app4R hg hat hr) hg1 6 u, hk.set_ 6 _⟩
theorem Rd.app5 (h : Rd w0 wp W g ps E T v1 v4 v5 v6) (hb : Below wp.heap.size W w1) (hg : W.grownBy w1 v5.ownBlock)
    (hs : Kd.S k47 47 w1 wp.heap.size (fun k_ => some k_ ≠ v1.ownBlock ∧ some k_ ≠ v4.ownBlock ∧ some k_ ≠ v6.ownBlock) u l5) : Rd w0 wp (w1.setCell ⟨g, 7, none⟩ u) g ps E { T with exts := l5 } v1 v4 u v6 := by
  obtain ⟨A, c, hgW, hl, hp⟩ := h.cells
  obtain ⟨hk, hb0⟩ := h.grownK hb
  have hne : some g ≠ v5.ownBlock := fun e => by
    obtain ⟨cells, hc⟩ := Kd.S_typed h.own.2.2.1 g e.symm
    rw [hgW] at hc
    injection hc with hc
    injection hc with _ hc
    exact absurd hc (by decide)
  have hg1 := blk_grown hgW hg hne
  exact ⟨h.lo, h.hi, by have := Nat.le_trans h.size hb.size; simpa using this, hb0.setCell (p := ⟨g, 7, none⟩) h.lo _, ⟨A, c, blk_put hg1 7 u rfl, hl, hp⟩, ownT_setR (h.own.app5 hg hs) hg1 7 u, hk.set_ 7 _⟩
end
section
variable {P : Program} {ops : Array Oper} {Q : Exit → Act → World → Prop}
theorem goesX_ {oi : Oper} {N : Option Tmp} {a : Act} {w : World} {K : Act → World → Prop} {f : FuncId} {fn : Func} {ars : Array Operand} {ts : Array TypeId} (hf : P.funcs[f]? = some fn) (hname : (fn.name == "runtime.NumGoroutine") = false) (hb : fn.body.isSome = true) (args : Array Value)
    (hw : Region.wanted oi (yielded ops a.tmps) = true) (hN : oi.dst = N) (hop : oi.op = .call { callee := .value (.func f), args := ars, argTypes := ts }) (hargs : ars.map a.eval = args)
    (h : Calls P f args w fun e w' => (∃ v, e = .returned v ∧ K (a.put N v) w') ∨ (∃ c, e = .panicked c ∧ Q (.panic c) a w')) : if Region.wanted oi (yielded ops a.tmps) = true then Oper.wp P oi a w K Q else K (a.put N undef) w := by
  rw [if_pos hw]
  subst hN
  have he := enters_ hf hname hb args w
  have hrun : (execOp a.eval oi).run P w = .ok (.enter f args) w := by
    unfold execOp
    simp [hop, resolve, Deferred.ofValue, invoke, Act.eval, hargs, he]
  unfold Oper.wp
  rw [hrun, Oper.upon_enter]
  refine h.mono fun e w'' hh => ?_
  rcases hh with ⟨v, rfl, hk⟩ | ⟨c, rfl, hk⟩
  · exact hk
  · exact hk
end
end Go.Proofs.YtejnfbfikadpdaaGreatDoor.P
