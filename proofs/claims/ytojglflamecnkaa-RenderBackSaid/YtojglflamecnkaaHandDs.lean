/- subs of the document's reader, walked. -/
import Derived.Test.YtojglflamecnkaaHandDr
namespace Go.Proofs.Ytojglflamecnkaa.P
open Go.RowKit Go.Shelf Go.Proofs.YtojglflamecnkaaW.PrintWords Go.Proofs.YtojglflamecnkaaW.PrintLast Go.Proofs.Ytojglflamecnkaa.Iso
set_option linter.unusedVariables false
set_option linter.unusedSimpArgs false
theorem Dr.stepW {wL W W' : World} {g n : Nat} {L : List P04} {ps : List PieceR} {E : Int} (h : Dr wL W g L ps E) (hb : Below n W W') (hg : g < n) : Dr wL W' g L ps E := by
  obtain ⟨A, c, i, hgi, hc, hp, hi, hps⟩ := h.rd
  exact ⟨h.blw.trans (below_lower hb (Nat.le_trans h.gl (Nat.le_of_lt hg))), h.gl, h.few, h.small, A, c, i, (hb.block g hg).trans hgi, hc, hp, hi, hps⟩
theorem dr_next {wL W : World} {g : Nat} {L : List P04} {ps t : List PieceR} {p : PieceR} {E : Int} {A : Option Addr} {c i : Nat} (h : Dr wL W g L ps E) (hps : ps = p :: t)
    (hgi : W.heap[g]? = some (.cells #[.slice A L.length c, .int .i64 (i : Int), .int .i64 E] 68 (0, 0))) : Dr wL (W.setCell ⟨g, 1, none⟩ (.int .i64 ((i : Int) + 1))) g L t E := by
  obtain ⟨ad, c', j, x, hgj, hj, _, _, _, _, ht, hc, hp⟩ := dr_cons h hps
  rw [hgi] at hgj
  injection hgj with e
  injection e with e _
  have e0 : A = some ad := by have := congrArg (·[0]?) e; simpa using (by injection this with h; injection h)
  have e2 : c = c' := by have := congrArg (·[0]?) e; simp at this; exact this.2
  have e1 : (i : Int) = j := by have := congrArg (·[1]?) e; simpa using this
  obtain rfl : i = j := by omega
  subst e0 e2
  exact ⟨h.blw.setCell (p := ⟨g, 1, none⟩) h.gl _, h.gl, h.few, h.small, some ad, c, i + 1, blk_put hgi 1 _ (by simp), hc, hp, hj, ht⟩
def leftD (W : World) (g n : Nat) : Nat := match W.cell? ⟨g, 1, none⟩ with
  | some (.int _ i) => n - i.toNat
  | _ => 0
theorem Dr.left {wL W : World} {g : Nat} {L : List P04} {ps : List PieceR} {E : Int} (h : Dr wL W g L ps E) : leftD W g L.length = ps.length := by
  obtain ⟨A, c, i, hgi, hc, hp, hi, hps⟩ := h.rd
  have z : W.cell? ⟨g, 1, none⟩ = some (.int .i64 (i : Int)) := (blk_cell hgi 1).trans rfl
  unfold leftD
  rw [z, hps, List.length_map, List.length_drop]
  show L.length - (i : Int).toNat = _
  omega
structure SubAt (q : ByteArray → Bool) (wL W wr : World) (g : Nat) (L : List P04) (ps0 ps : List PieceR) (E : Int) (v : Value) (acc : List ByteArray) : Prop where
  rd : Dr wL wr g L ps E
  keep : KeepBut W wr g none
  row : Kd.R Kd.string 9 wr W.heap.size (fun _ => True) v acc
  l : rowL q ps0 = acc ++ rowL q ps
  t : rowT q ps0 = rowT q ps
  n : acc.length + ps.length ≤ ps0.length
abbrev qMin (m : Nat) (s : ByteArray) : Bool := decide (m ≤ s.size)
set_option maxRecDepth 100000 in
set_option maxHeartbeats 4000000 in
theorem subs07_calls {wL W : World} {g : Nat} {L : List P04} {ps : List PieceR} {E : Int} (h : Dr wL W g L ps E) (hgW : g < W.heap.size) (hn : ps.length ≤ 1000000) (m : Nat) :
    Calls Try.prog 55 #[.pointer (some ⟨g, 0, none⟩), .int .i64 (m : Int)] W fun e W' => ∃ v, e = .returned v ∧ Kd.R Kd.string 9 W' W.heap.size (fun _ => True) v (rowL (qMin m) ps) ∧ Dr wL W' g L (rowT (qMin m) ps) E ∧ KeepBut W W' g none := by
  have HL := Lib.hid hn
  have HG := Lib.hid hgW
  have R0 := Lib.hid (show SubAt (qMin m) wL W W g L ps ps E (.slice none 0 0) [] from ⟨h, KeepBut.refl W g none, Kd.R_nil _ _ _ _ _, rfl, rfl, by simp⟩)
  clear hn h hgW
  go_enter Try.func55, Try.ntmps55
  go_wp2
  go_loopw [5] (fun v wr => ∃ (ps' : List PieceR) (acc : List ByteArray), Hid (SubAt (qMin m) wL W wr g L ps ps' E v acc)) (fun _ wr => leftD wr g L.length)
  case atStart => exact ⟨ps, [], R0⟩
  case round =>
    obtain ⟨ps', acc, hR⟩ := hrel
    have D1 := Lib.hid hR.out.rd
    by_cases c : (hereB ps').toList.isEmpty = true
    · have HS := Lib.hid (here_none c)
      have HO := Lib.hid (show oneQb (qMin m) ps' = false by unfold oneQb; rw [c]; rfl)
      clear c R0
      go_wp2_with (go_at_call 50; refine (here07_calls D1.out).mono ?_; rw [HS.out]; rintro e w2 ⟨rfl, hb⟩; have D2 := Lib.hid (D1.out.step hb); have B2 := Lib.hid hb; clear hb D1)
      go_ret
      obtain ⟨n1, n2⟩ := rowL_no HO.out
      have l1 := hR.out.l
      have t1 := hR.out.t
      rw [n1, List.append_nil] at l1
      rw [n2] at t1
      exact ⟨_, rfl, by rw [l1]; exact Kd.R_below hR.out.row B2.out, by rw [t1]; exact D2.out, hR.out.keep.trans (KeepBut.of_below B2.out g none) (.inl rfl)⟩
    · have c1 : (hereB ps').toList.isEmpty = false := by simpa using c
      obtain ⟨p, t, hps, h1, h2, h3⟩ := here_ne c1
      have HP := Lib.hid hps
      obtain ⟨s, hs⟩ : ∃ s, s = hereB ps' := ⟨_, rfl⟩
      have HS := Lib.hid hs
      have hn : ¬ (s.toList = ([] : List UInt8)) := by rw [hs]; exact fun e => by rw [e] at c1; cases c1
      have hn1 : (s.toList == ([] : List UInt8)) = false := beq_eq_false_iff_ne.2 hn
      have hn2 : (s.toList != ([] : List UInt8)) = true := bne_iff_ne.2 hn
      rw [← hs] at c1
      have hn3 : (!s.toList.isEmpty) = true := by rw [c1]; rfl
      by_cases hqq : m ≤ s.size
      · have HO := Lib.hid (show oneQb (qMin m) ps' = true by unfold oneQb; rw [← hs, c1, show qMin m s = true from decide_eq_true hqq]; rfl)
        have hq1 : decide ((m : Int) ≤ (s.size : Int)) = true := decide_eq_true (by omega)
        have hq2 : ((m : Int) ≤ (s.size : Int)) := by omega
        have HAC := Lib.hid (show acc.length ≤ 1000000 from by have := hR.out.n; have := HL.out; omega)
        obtain ⟨A, d, hu⟩ := Kd.R_slice hR.out.row
        subst hu
        have HWZ := Lib.hid hR.out.keep.1
        clear c h1 h2 h3 hps hs hqq R0
        go_wp2_with (first | (go_at_call 50; refine (here07_calls D1.out).mono ?_; rw [← HS.out]; rintro e w2 ⟨rfl, hb⟩; have D2 := Lib.hid (D1.out.step hb); have B2 := Lib.hid hb; clear hb D1) | (go_at_call 50; refine (here07_calls D2.out).mono ?_; rw [← HS.out]; rintro e w3 ⟨rfl, hb⟩; have D3 := Lib.hid (D2.out.step hb); have B3 := Lib.hid (below_step B2.out hb); clear hb D2 B2) | (go_at_call 50; refine (here07_calls D3.out).mono ?_; rw [← HS.out]; rintro e w4 ⟨rfl, hb⟩; have D4 := Lib.hid (D3.out.step hb); have B4 := Lib.hid (below_step B3.out hb); clear hb D3 B3) | (at_builtin; refine Kd.R_append Kd.string (w0 := w4) W.heap.size rfl (.tmp 16) (.tmp 19) 25 9 (.string ⟨#[]⟩) 16 rfl Try.underlying25 info9 rfl (by decide) (by decide) (.slice A acc.length d) acc s [.string s] (fun _ => True) (fun _ => False) rfl rfl ?aP (fun _ hk => hk.elim) ?aF ?aO ?aB ?aS ?aL ?_; (case aP => exact rfl); (case aF => exact fun _ _ => trivial); (case aO => exact Kd.R_below hR.out.row B4.out); (case aB => exact Below.refl _ _); (case aS => exact Nat.le_trans HWZ.out B4.out.size); (case aL => have := HAC.out; omega); intro x w5 hr hb hg hat; have HX := Lib.hid hr; have HBB := Lib.hid hb; have D5 := Lib.hid (D4.out.stepW hb HG.out); clear hr hb hg hat D4; have hrd := D5.out.rd; obtain ⟨A5, c5, i5, hgi, -, -, hi5, hp5⟩ := hrd; have HGI := Lib.hid hgi; have z5 : w5.cell? ⟨g, 1, none⟩ = some (.int .i64 (i5 : Int)) := (blk_cell hgi 1).trans rfl; have f5 := blk_frozen hgi 1; have y5 : wrap64 ((i5 : Int) + 1) = (i5 : Int) + 1 := (by have := D5.out.few; unfold wrap64; omega); clear hgi hi5 hp5))
        have hp := HP.out
        have hx := HX.out
        have nx := dr_next D5.out hp HGI.out
        have k4 : KeepBut W w4 g none := hR.out.keep.trans (KeepBut.of_below B4.out g none) (.inl rfl)
        have k5 : KeepBut W w5 g none := ⟨Nat.le_trans k4.1 HBB.out.size, fun i hi hne hr => (HBB.out.block i hi).trans (k4.2 i hi hne hr)⟩
        refine ⟨⟨t, _, Lib.hid ⟨nx, k5.set_ 1 _, Kd.R_set hx HGI.out (by decide) 1 _, ?_, ?_, ?_⟩⟩, ?_⟩
        · rw [hR.out.l, hp]
          conv => lhs; rw [rowL]
          rw [← hp, if_pos HO.out, ← HS.out, List.append_assoc, List.singleton_append]
        · rw [hR.out.t, hp]
          conv => lhs; rw [rowT]
          rw [← hp, if_pos HO.out]
        · have := hR.out.n
          rw [hp] at this
          rw [List.length_append, List.length_singleton]
          rw [List.length_cons] at this
          omega
        · have e1 := nx.left
          have e2 := hR.out.rd.left
          rw [hp] at e2
          rw [e1, e2]
          exact Nat.lt_succ_self _
      · have HO := Lib.hid (show oneQb (qMin m) ps' = false by unfold oneQb; rw [← hs, show qMin m s = false from decide_eq_false hqq, Bool.and_false])
        have hq1 : decide ((m : Int) ≤ (s.size : Int)) = false := decide_eq_false (by omega)
        have hq2 : ¬ ((m : Int) ≤ (s.size : Int)) := by omega
        clear c h1 h2 h3 hps hs hqq R0
        go_wp2_with (first | (go_at_call 50; refine (here07_calls D1.out).mono ?_; rw [← HS.out]; rintro e w2 ⟨rfl, hb⟩; have D2 := Lib.hid (D1.out.step hb); have B2 := Lib.hid hb; clear hb D1) | (go_at_call 50; refine (here07_calls D2.out).mono ?_; rw [← HS.out]; rintro e w3 ⟨rfl, hb⟩; have D3 := Lib.hid (D2.out.step hb); have B3 := Lib.hid (below_step B2.out hb); clear hb D2 B2))
        go_ret
        obtain ⟨n1, n2⟩ := rowL_no HO.out
        have l1 := hR.out.l
        have t1 := hR.out.t
        rw [n1, List.append_nil] at l1
        rw [n2] at t1
        exact ⟨_, rfl, by rw [l1]; exact Kd.R_below hR.out.row B3.out, by rw [t1]; exact D3.out, hR.out.keep.trans (KeepBut.of_below B3.out g none) (.inl rfl)⟩
end Go.Proofs.Ytojglflamecnkaa.P
