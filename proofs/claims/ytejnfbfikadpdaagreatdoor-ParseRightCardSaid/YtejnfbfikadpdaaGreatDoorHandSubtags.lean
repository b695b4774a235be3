/- tag.Subtags, walked by hand: a tag's texts, in a row of the call's own. -/
import Derived.Test.YtejnfbfikadpdaaGreatDoorSq
import Derived.Test.YtejnfbfikadpdaaGreatDoorEvMade
import Derived.Test.YtejnfbfikadpdaaGreatDoorMade
import Derived.Test.YtejnfbfikadpdaaGreatDoorHand1
import Derived.Test.YtejnfbfikadpdaaGreatDoorEvSubtags
namespace Go.Proofs.YtejnfbfikadpdaaGreatDoor.P
open Go.RowKit Go.Shelf Go.Proofs.YtejnfbfikadpdaaGreatDoorW.PrintWords
set_option linter.unusedVariables false
set_option linter.unusedSimpArgs false
def RowsC (W : World) (T : TG) (A1 : Option Addr) (c1 : Nat) (A4 : Option Addr) (c4 : Nat) (A5 : Option Addr) (c5 : Nat) (A6 : Option Addr) (c6 : Nat) : Prop :=
  (Kd.C Kd.string W A1 T.ext.length T.ext ∧ T.ext.length ≤ c1) ∧ (Kd.C Kd.string W A4 T.vars.length T.vars ∧ T.vars.length ≤ c4) ∧ (Kd.C k47 W A5 T.exts.length T.exts ∧ T.exts.length ≤ c5) ∧ (Kd.C Kd.string W A6 T.priv.length T.priv ∧ T.priv.length ≤ c6)
theorem RowsC.below {W W' : World} {T : TG} {A1 : Option Addr} {c1 : Nat} {A4 : Option Addr} {c4 : Nat} {A5 : Option Addr} {c5 : Nat} {A6 : Option Addr} {c6 : Nat} (h : RowsC W T A1 c1 A4 c4 A5 c5 A6 c6) (hb : Below W.heap.size W W') : RowsC W' T A1 c1 A4 c4 A5 c5 A6 c6 :=
  ⟨⟨Kd.C_below h.1.1 hb, h.1.2⟩, ⟨Kd.C_below h.2.1.1 hb, h.2.1.2⟩, ⟨Kd.C_below h.2.2.1.1 hb, h.2.2.1.2⟩, ⟨Kd.C_below h.2.2.2.1 hb, h.2.2.2.2⟩⟩
abbrev tagCells (T : TG) (A1 : Option Addr) (c1 : Nat) (A4 : Option Addr) (c4 : Nat) (A5 : Option Addr) (c5 : Nat) (A6 : Option Addr) (c6 : Nat) : Array Value := #[.string T.lang, .slice A1 T.ext.length c1, .string T.script, .string T.region, .slice A4 T.vars.length c4, .slice A5 T.exts.length c5, .slice A6 T.priv.length c6, .string T.grand]
theorem Made_tag (k : Nat) (a0 a1 a2 a3 : Int) (A4 : Option Addr) (c4 : Nat) (l4 : List Int) (A5 : Option Addr) (c5 : Nat) (l5 : List Int) (A6 : Option Addr) (c6 : Nat) (l6 : List Int) (a7 : Int) (T : TG) (w : World) (h4 : Kd.C (Kd.int .i64) w A4 l4.length l4 ∧ l4.length ≤ c4) (h5 : Kd.C (Kd.int .i64) w A5 l5.length l5 ∧ l5.length ≤ c5) (h6 : Kd.C (Kd.int .i64) w A6 l6.length l6 ∧ l6.length ≤ c6)
    (h : r6_Made.f k a0 a1 a2 a3 l4 l5 l6 a7 = some (T.lang, T.ext, T.script, T.region, T.vars, T.exts, T.priv, T.grand)) :
    Calls Tryz.prog 11 #[.agg #[.int .i64 a0, .int .i64 a1, .int .i64 a2, .int .i64 a3, .slice A4 l4.length c4, .slice A5 l5.length c5, .slice A6 l6.length c6, .int .i64 a7]] w fun e w' => ∃ A1 c1 A4 c4 A5 c5 A6 c6, e = .returned (.agg (tagCells T A1 c1 A4 c4 A5 c5 A6 c6)) ∧ RowsC w' T A1 c1 A4 c4 A5 c5 A6 c6 ∧ Below w.heap.size w w' := by
  refine (r6_Made.calls k a0 a1 a2 a3 A4 c4 l4 A5 c5 l5 A6 c6 l6 a7 _ _ _ _ _ _ _ _ w h4.1 h4.2 h5.1 h5.2 h6.1 h6.2 h).mono fun e w' ⟨v1, v4, v5, v6, he, g1, g4, g5, g6, hb⟩ => ?_
  obtain ⟨B1, d1, e1, x1, y1⟩ := Kd.R_reads g1
  obtain ⟨B4, d4, e4, x4, y4⟩ := Kd.R_reads g4
  obtain ⟨B5, d5, e5, x5, y5⟩ := Kd.S_reads g5
  obtain ⟨B6, d6, e6, x6, y6⟩ := Kd.R_reads g6
  exact ⟨B1, d1, B4, d4, B5, d5, B6, d6, by rw [he, e1, e4, e5, e6], ⟨⟨y1, x1⟩, ⟨y4, x4⟩, ⟨y5, x5⟩, ⟨y6, x6⟩⟩, hb⟩
theorem OwnT.rows {W : World} {base : Nat} {T : TG} {A1 : Option Addr} {c1 : Nat} {A4 : Option Addr} {c4 : Nat} {A5 : Option Addr} {c5 : Nat} {A6 : Option Addr} {c6 : Nat} (h : OwnT W base (.slice A1 T.ext.length c1) (.slice A4 T.vars.length c4) (.slice A5 T.exts.length c5) (.slice A6 T.priv.length c6) T.ext T.vars T.exts T.priv) : RowsC W T A1 c1 A4 c4 A5 c5 A6 c6 :=
  ⟨⟨(Kd.R_reads' h.1).2.2, (Kd.R_reads' h.1).2.1⟩, ⟨(Kd.R_reads' h.2.1).2.2, (Kd.R_reads' h.2.1).2.1⟩, ⟨(Kd.S_reads' h.2.2.1).2.2, (Kd.S_reads' h.2.2.1).2.1⟩, ⟨(Kd.R_reads' h.2.2.2).2.2, (Kd.R_reads' h.2.2.2).2.1⟩⟩
theorem cells8o {w : World} {g : Nat} {t : TypeId} {x0 x1 x2 x3 x4 x5 x6 x7 : Value} (h : w.heap[g]? = some (.cells #[x0, x1, x2, x3, x4, x5, x6, x7] t (0, 0))) (o : Obj) : (w.alloc o).cell? ⟨g, 0, none⟩ = some x0 ∧ (w.alloc o).cell? ⟨g, 1, none⟩ = some x1 ∧ (w.alloc o).cell? ⟨g, 2, none⟩ = some x2 ∧ (w.alloc o).cell? ⟨g, 3, none⟩ = some x3 ∧ (w.alloc o).cell? ⟨g, 4, none⟩ = some x4 ∧ (w.alloc o).cell? ⟨g, 5, none⟩ = some x5 ∧ (w.alloc o).cell? ⟨g, 6, none⟩ = some x6 ∧ (w.alloc o).cell? ⟨g, 7, none⟩ = some x7 := by
  have h2 : (w.alloc o).heap[g]? = some (.cells #[x0, x1, x2, x3, x4, x5, x6, x7] t (0, 0)) := (((Below.refl w.heap.size w).alloc (Nat.le_refl _) o).block g (blk_lt h)).trans h
  exact (C8_ h2)
end Go.Proofs.YtejnfbfikadpdaaGreatDoor.P
namespace Go.Proofs.YtejnfbfikadpdaaGreatDoor.P
open Go.RowKit Go.Shelf Go.Proofs.YtejnfbfikadpdaaGreatDoorW.PrintWords Go.Proofs.YtejnfbfikadpdaaGreatDoorW.PrintLast Go.Proofs.YtejnfbfikadpdaaGreatDoorW.PrintMore
attribute [local go_sem] Oper.semAt_some
set_option linter.unusedVariables false
set_option linter.unusedSimpArgs false
structure Grows (B g : Nat) (w : World) (v : Value) (wr : World) (u : Value) (acc : List ByteArray) : Prop where
  at_ : wr.heap[g]? = some (.cells #[u] 26 (0, 0))
  row : Kd.R Kd.string 9 wr B (fun _ => True) u acc
  own : u.ownBlock = v.ownBlock ∨ ∃ b, u.ownBlock = some b ∧ w.heap.size ≤ b
  bel : Below B w wr
  kept : ∀ k, k < w.heap.size → k ≠ g → some k ≠ v.ownBlock → wr.heap[k]? = w.heap[k]?
theorem Grows.refl {B g : Nat} {w : World} {v : Value} {acc : List ByteArray} (hg : w.heap[g]? = some (.cells #[v] 26 (0, 0))) (ho : Kd.R Kd.string 9 w B (fun _ => True) v acc) : Grows B g w v w v acc :=
  ⟨hg, ho, .inl rfl, Below.refl _ _, fun _ _ _ _ => rfl⟩
theorem Grows.trans {B g : Nat} {w w1 w2 : World} {v u x : Value} {a b : List ByteArray} (h : Grows B g w v w1 u a) (k : Grows B g w1 u w2 x b) : Grows B g w v w2 x b := by
  have hs := h.bel.size
  refine ⟨k.at_, k.row, ?_, h.bel.trans k.bel, fun i hi h1 h2 => ?_⟩
  · rcases k.own with e | ⟨c, e, hc⟩
    · rcases h.own with e' | ⟨c, e', hc⟩
      · exact .inl (e.trans e')
      · exact .inr ⟨c, e.trans e', hc⟩
    · exact .inr ⟨c, e, by omega⟩
  · refine (k.kept i (by omega) h1 ?_).trans (h.kept i hi h1 h2)
    rcases h.own with e | ⟨c, e, hc⟩
    · rw [e]; exact h2
    · rw [e]
      intro he
      injection he with he
      omega
theorem Grows.alloc {B g : Nat} {w wr : World} {v u : Value} {a : List ByteArray} (h : Grows B g w v wr u a) (hB : B ≤ wr.heap.size) (o : Obj) : Grows B g w v (wr.alloc o) u a := by
  have al : Below wr.heap.size wr (wr.alloc o) := below_alloc (Below.refl _ _) _
  refine ⟨blk_on h.at_ al, Kd.R_below h.row al, h.own, h.bel.alloc hB o, fun k hk h1 h2 => ?_⟩
  have hs := h.bel.size
  exact (al.block k (by omega)).trans (h.kept k hk h1 h2)
theorem Grows.step {B g : Nat} {w wr w2 : World} {v u x : Value} {a b : List ByteArray} (h : Grows B g w v wr u a) (hB : B ≤ g) (hg : wr.grownBy w2 u.ownBlock) (hat : x.ownBlock = u.ownBlock ∨ ∃ c, x.ownBlock = some c ∧ wr.heap.size ≤ c) (hr : Kd.R Kd.string 9 w2 B (fun _ => True) x b) (hb : Below B wr w2) :
    Grows B g w v (w2.setCell ⟨g, 0, none⟩ x) x b := by
  have hs := h.bel.size
  have hgu : some g ≠ u.ownBlock := Kd.R_ne h.row h.at_ (by decide)
  have h2 := blk_grown h.at_ hg hgu
  refine ⟨blk_put h2 0 x rfl, Kd.R_set hr h2 (by decide) 0 x, ?_, (h.bel.trans hb).setCell (p := ⟨g, 0, none⟩) hB x, fun k hk h1 h3 => ?_⟩
  · rcases hat with e | ⟨c, e, hc⟩
    · rcases h.own with e' | ⟨c, e', hc⟩
      · exact .inl (e.trans e')
      · exact .inr ⟨c, e.trans e', hc⟩
    · exact .inr ⟨c, e, by omega⟩
  · rw [Below.heap_setCell _ _ _ k h1]
    refine (hg.block k (by omega) ?_).trans (h.kept k hk h1 h3)
    rcases h.own with e | ⟨c, e, hc⟩
    · rw [e]; exact h3
    · rw [e]
      intro he
      injection he with he
      omega
set_option maxRecDepth 100000 in
set_option maxHeartbeats 4000000 in
/-- add: those of a row that are not empty. -/
theorem add_calls (B g b : Nat) (v : Value) (acc : List ByteArray) (l : List ByteArray) (w : World) (hB : B ≤ g) (hg : w.heap[g]? = some (.cells #[v] 26 (0, 0))) (ho : Kd.R Kd.string 9 w B (fun _ => True) v acc) (hl : w.heap[b]? = some (.cells (l.map Value.string).toArray 9 (0, 0))) (hbv : some b ≠ v.ownBlock) (hlen : l.length ≤ 2) (hsz : acc.length ≤ 1000000) :
    Calls Tryz.prog 156 #[.slice (some ⟨b, 0, none⟩) l.length l.length, .pointer (some ⟨g, 0, none⟩)] w fun e w' => e = .returned (.tuple #[]) ∧ ∃ u, Grows B g w v w' u (acc ++ l.flatMap some1) := by
  have hgb : b ≠ g := by
    rintro rfl
    rw [hg] at hl
    injection hl with hl
    injection hl with _ hl
    exact absurd hl (by decide)
  have hbl := blk_lt hl
  have hgl := blk_lt hg
  have HG0 := Lib.hid (Grows.refl hg ho)
  have HL := Lib.hid hl
  have HBV := Lib.hid hbv
  have HBG := Lib.hid hgb
  have HBg := Lib.hid hB
  have HSZ := Lib.hid hsz
  have HLN := Lib.hid hlen
  have HBL := Lib.hid (And.intro hbl hgl)
  clear hg ho hl hbv hgb hB hsz hlen hbl hgl
  go_enter Tryz.func156, Tryz.ntmps156
  go_wp2
  go_loopw [7] (fun iv wr => ∃ (i : Nat) (u : Value), iv = .int .i64 (i : Int) ∧ Hid (i ≤ l.length) ∧ Hid (Grows B g w v wr u (acc ++ (l.take i).flatMap some1))) (fun iv _ => l.length - (intOf iv).toNat)
  case atStart => exact ⟨0, v, rfl, Lib.hid (Nat.zero_le _), Lib.hid (by rw [List.take_zero, List.flatMap_nil, List.append_nil]; exact HG0.out)⟩
  case round =>
    obtain ⟨i, u, rfl, hi, hG⟩ := hrel
    by_cases hlt : i < l.length
    · have hln := HLN.out
      have hw2 : wrap64 ((i : Int) + 1) = ((i + 1 : Nat) : Int) := by unfold wrap64; omega
      have q0 : ((i : Int) < (l.length : Int)) := by omega
      have q1 : (0 : Int) ≤ (i : Int) := by omega
      have hbk := (hG.out.kept b HBL.out.1 HBG.out HBV.out).trans HL.out
      obtain ⟨s, hs⟩ : ∃ s, s = l[i] := ⟨_, rfl⟩
      have hcell : wr.cell? ⟨b, i, none⟩ = some (.string s) := by
        rw [blk_cell hbk i, hs]; simp [List.getElem?_eq_getElem hlt]
      have hcell' : wr.cell? ((⟨b, 0, none⟩ : Addr).add i) = some (.string s) := by rw [add_plain]; exact hcell
      have htk : (l.take (i + 1)).flatMap some1 = (l.take i).flatMap some1 ++ some1 s := by
        rw [hs, List.take_succ_eq_append_getElem hlt, List.flatMap_append, List.flatMap_singleton]
      have hac : (acc ++ (l.take i).flatMap some1).length ≤ 1000004 := by
        have : ((l.take i).flatMap some1).length ≤ 2 := by
          have h1 : ∀ m : List ByteArray, (m.flatMap some1).length ≤ m.length := by
            intro m
            induction m with
            | nil => exact Nat.le_refl _
            | cons x m ih =>
              rw [List.flatMap_cons, List.length_append, List.length_cons]
              have : (some1 x).length ≤ 1 := by unfold some1; split <;> simp
              omega
          have := h1 (l.take i)
          rw [List.length_take] at this
          omega
        have := HSZ.out
        rw [List.length_append]; omega
      obtain ⟨cur, hcur⟩ : ∃ cur, cur = acc ++ (l.take i).flatMap some1 := ⟨_, rfl⟩
      rw [← hcur] at hG hac
      have hun : some g ≠ u.ownBlock := Kd.R_ne hG.out.row hG.out.at_ (by decide)
      have hcg : wr.cell? ⟨g, 0, none⟩ = some u := (blk_cell hG.out.at_ 0).trans rfl
      have HCUR := Lib.hid (show acc ++ (l.take (i + 1)).flatMap some1 = cur ++ some1 s by rw [htk, hcur, List.append_assoc])
      have HLT := Lib.hid hlt
      have HAC := Lib.hid hac
      have HW2 := Lib.hid hw2
      have HUN := Lib.hid hun
      have HGS := Lib.hid (Nat.le_trans HBg.out (Nat.le_of_lt (blk_lt hG.out.at_)))
      obtain ⟨A, c, hu⟩ := Kd.R_slice hG.out.row
      subst hu
      clear htk hac hbk hs hcur hun hlt
      by_cases he : s.toList = ([] : List UInt8)
      · have H1 : Hid (some1 s = []) := Lib.hid (by unfold some1; rw [if_pos he])
        have c0 : (s.toList == ([] : List UInt8)) = true := by rw [he]; rfl
        have c1 : s.toList.isEmpty = true := by rw [he]; rfl
        clear he
        go_wp2
        refine ⟨⟨i + 1, _, by go_num, Lib.hid (Nat.succ_le_of_lt HLT.out), Lib.hid (by rw [HCUR.out, H1.out, List.append_nil]; exact hG.out)⟩, ?_⟩
        have := HLT.out
        simp [intOf]; omega
      · have H1 : Hid (some1 s = [s]) := Lib.hid (by unfold some1; rw [if_neg he])
        have c1 : s.toList.isEmpty = false := by rw [List.isEmpty_eq_false_iff]; exact he
        have c0 : (s.toList == ([] : List UInt8)) = false := beq_eq_false_iff_ne.2 he
        clear he
        go_wp2_with (at_builtin; refine Kd.R_append Kd.string (w0 := wr) B rfl (.tmp 13) (.tmp 15) 26 9 (.string ⟨#[]⟩) 16 rfl Tryz.underlying26 info9 rfl (by decide) (by decide) (.slice A cur.length c) cur s [.string s] (fun _ => True) (fun _ => False) rfl rfl ?aP (fun _ hk => hk.elim) ?aF ?aO ?aB ?aS ?aL ?_; (case aP => exact rfl); (case aF => exact fun _ _ => trivial); (case aO => exact hG.out.row); (case aB => exact Below.refl _ _); (case aS => exact HGS.out); (case aL => have := HAC.out; omega); intro x w2 hr hb hg hat; obtain ⟨A2, c2, hx⟩ := Kd.R_slice hr; rw [List.length_append] at hx; have hx1 : x = .slice A2 (cur.length + 1) c2 := hx; clear hx; subst hx1; have k2 := blk_grown hG.out.at_ hg HUN.out; have k3 := (blk_cell k2 0).trans rfl; have k4 := blk_frozen k2 0; have HR := Lib.hid hr; have HB := Lib.hid hb; have HGR := Lib.hid hg; have HAT := Lib.hid hat; clear hr hb hg hat k2)
        refine ⟨⟨i + 1, _, by go_num, Lib.hid (Nat.succ_le_of_lt HLT.out), Lib.hid (by rw [HCUR.out, H1.out]; exact hG.out.step HBg.out HGR.out HAT.out HR.out HB.out)⟩, ?_⟩
        have := HLT.out
        simp [intOf]; omega
    · have q0 : ¬ ((i : Int) < (l.length : Int)) := by omega
      have HI := Lib.hid (show l.length ≤ i by omega)
      go_wp2
      go_end0
      exact ⟨rfl, u, by have := hG.out; rw [List.take_of_length_le HI.out] at this; exact this⟩
theorem Grows.drew {B g : Nat} {w wr : World} {v u : Value} {a : List ByteArray} (h : Grows B g w v wr u a) : Grows B g w v wr.drew u a :=
  ⟨h.at_, Kd.R_drew h.row, h.own, below_drew h.bel, h.kept⟩
structure Sub (w : World) (c : Array Value) (W : World) (u : Value) (acc : List ByteArray) : Prop where
  g : Grows w.heap.size (w.heap.size + 1) ((w.alloc (.cells c 29)).alloc (.cells #[.slice none 0 0] 26)) (.slice none 0 0) W u acc
theorem two_kinds (w : World) (cs zs : Array Value) (t t' : TypeId) : ((w.alloc (.cells cs t)).alloc (.cells zs t')).heap[w.heap.size]? = some (.cells cs t (0, 0)) ∧ ((w.alloc (.cells cs t)).alloc (.cells zs t')).heap[w.heap.size + 1]? = some (.cells zs t' (0, 0)) := by
  constructor
  · show ((w.heap.push _).push _)[w.heap.size]? = _
    simp [Array.getElem?_push]
  · have := heap_alloc_new (w.alloc (.cells cs t)) (.cells zs t')
    rw [show (w.alloc (.cells cs t)).heap.size = w.heap.size + 1 by simp] at this
    exact this
section
variable {w W : World} {c : Array Value} {u x : Value} {acc b : List ByteArray}
theorem Sub.start (w : World) (c : Array Value) : Sub w c ((w.alloc (.cells c 29)).alloc (.cells #[.slice none 0 0] 26)) (.slice none 0 0) [] :=
  ⟨⟨(two_kinds w _ _ _ _).2, Kd.R_nil _ _ _ _ _, .inl rfl, ((Below.refl _ _)), fun _ _ _ _ => rfl⟩⟩
theorem Sub.size (h : Sub w c W u acc) : w.heap.size + 2 ≤ W.heap.size := by
  have := h.g.bel.size
  simpa using this
theorem Sub.below (h : Sub w c W u acc) : Below w.heap.size w W := (((Below.refl w.heap.size w).alloc (Nat.le_refl _) _).alloc (by simp) _).trans h.g.bel
theorem Sub.tag (h : Sub w c W u acc) : W.heap[w.heap.size]? = some (.cells c 29 (0, 0)) :=
  (h.g.kept w.heap.size (by simp; omega) (by omega) (by simp [Value.ownBlock])).trans (two_kinds w _ _ _ _).1
theorem Sub.out (h : Sub w c W u acc) : W.heap[w.heap.size + 1]? = some (.cells #[u] 26 (0, 0)) := h.g.at_
theorem Sub.alloc (h : Sub w c W u acc) (o : Obj) : Sub w c (W.alloc o) u acc := ⟨h.g.alloc (by have := h.size; omega) o⟩
theorem Sub.drew (h : Sub w c W u acc) : Sub w c W.drew u acc := ⟨h.g.drew⟩
theorem Sub.step {w2 : World} (h : Sub w c W u acc) (hg : W.grownBy w2 u.ownBlock) (hat : x.ownBlock = u.ownBlock ∨ ∃ c, x.ownBlock = some c ∧ W.heap.size ≤ c) (hr : Kd.R Kd.string 9 w2 w.heap.size (fun _ => True) x b) (hb : Below w.heap.size W w2) : Sub w c (w2.setCell ⟨w.heap.size + 1, 0, none⟩ x) x b :=
  ⟨h.g.step (by omega) hg hat hr hb⟩
theorem Sub.add (h : Sub w c W u acc) (l : List ByteArray) (cs : Array Value) (hcs : cs = (l.map Value.string).toArray) (n g : Nat) (hn : n = l.length) (hg : g = W.heap.size) (hlen : l.length ≤ 2) (hsz : acc.length ≤ 1000000) :
    Calls Tryz.prog 156 #[.slice (some ⟨g, 0, none⟩) n n, .pointer (some ⟨w.heap.size + 1, 0, none⟩)] (W.alloc (.cells cs 9)) fun e w' => e = .returned (.tuple #[]) ∧ ∃ A c1 u', u' = .slice A (acc ++ l.flatMap some1).length c1 ∧ Sub w c w' u' (acc ++ l.flatMap some1) := by
  subst hn hg hcs
  have h1 := h.alloc (.cells (l.map Value.string).toArray 9)
  have hs := h.size
  refine (add_calls w.heap.size (w.heap.size + 1) W.heap.size u acc l (W.alloc (.cells (l.map Value.string).toArray 9)) (by omega) h1.out h1.g.row (new_blk _ _) ?_ hlen hsz).mono fun e w' ⟨he, u', hG⟩ => ?_
  · intro e
    have := Kd.R_lt h.g.row _ e.symm
    omega
  · obtain ⟨A, c1, hu⟩ := Kd.R_slice hG.row
    exact ⟨he, A, c1, u', hu, ⟨h1.g.trans hG⟩⟩
end
def sub_T9 : Bool × List (List Nat × List Nat) := (true, [([], []), ([], []), ([1], [1]), ([2], [2]), ([0, 3], [0, 3]), ([], []), ([5], [5]), ([4, 6, 4], [4, 6]), ([7, 7, 0, 1, 2, 3, 4, 5, 6, 7], [7])])
def sub_B9 : List Nat := [0, 0, 2, 6, 15, 0, 32, 127, 255]
theorem sub_tab9 : rtab .any (opsOf Tryz.f135 12) = sub_T9 := by kernel_rfl
theorem sub_bits9 : waitsOk sub_T9.2 sub_B9 = true := by kernel_rfl
def sub_T7 : Bool × List (List Nat × List Nat) := (true, [([], []), ([], []), ([0, 1], [0, 1]), ([], []), ([3], [3]), ([2, 4, 2], [2, 4]), ([5, 5, 0, 1, 2, 3, 4, 5], [5])])
def sub_B7 : List Nat := [0, 0, 3, 0, 8, 31, 63]
theorem sub_tab7 : rtab .any (opsOf Tryz.f135 15) = sub_T7 := by kernel_rfl
theorem sub_bits7 : waitsOk sub_T7.2 sub_B7 = true := by kernel_rfl
theorem grown_two {W w2 w3 : World} {r r' : Option Nat} (h1 : W.grownBy w2 r) (h2 : w2.grownBy w3 r') (hr : r' = r ∨ ∃ b, r' = some b ∧ W.heap.size ≤ b) : W.grownBy w3 r := by
  have hs := h1.size
  refine ⟨h2.1.trans h1.1, h2.2.trans h1.2, h2.3.trans h1.3, Nat.le_trans h1.size h2.size, fun k hk hne => (h2.block k (by omega) ?_).trans (h1.block k hk hne)⟩
  rcases hr with e | ⟨b, e, hb⟩
  · rw [e]; exact hne
  · rw [e]
    intro he
    injection he with he
    omega
theorem at_two {W w2 : World} {r r' r2 : Option Nat} (h1 : W.heap.size ≤ w2.heap.size) (hr : r' = r ∨ ∃ b, r' = some b ∧ W.heap.size ≤ b) (h2 : r2 = r' ∨ ∃ b, r2 = some b ∧ w2.heap.size ≤ b) : r2 = r ∨ ∃ b, r2 = some b ∧ W.heap.size ≤ b := by
  rcases h2 with e | ⟨b, e, hb⟩
  · rw [e]; exact hr
  · exact .inr ⟨b, e, by omega⟩
set_option maxRecDepth 100000 in
set_option maxHeartbeats 8000000 in
theorem Subtags_some (T : TG) (A1 : Option Addr) (c1 : Nat) (A4 : Option Addr) (c4 : Nat) (A5 : Option Addr) (c5 : Nat) (A6 : Option Addr) (c6 : Nat) (w : World) (hr : RowsC w T A1 c1 A4 c4 A5 c5 A6 c6) (hz : T.grand.toList = ([] : List UInt8)) (hl : (subL T.lang T.ext T.script T.region T.vars T.exts T.priv).length ≤ 100000) :
    Calls Tryz.prog 135 #[.agg #[.string T.lang, .slice A1 T.ext.length c1, .string T.script, .string T.region, .slice A4 T.vars.length c4, .slice A5 T.exts.length c5, .slice A6 T.priv.length c6, .string T.grand]] w fun e w' => ∃ v0_, e = .returned v0_ ∧ Kd.R Kd.string 9 w' w.heap.size (fun _ => True) v0_ (subL T.lang T.ext T.script T.region T.vars T.exts T.priv) ∧ Below w.heap.size w w' := by
  obtain ⟨x0, x1, x2, x3, x4, x5, x6, x7⟩ := T
  dsimp only at hr hz hl ⊢
  have HR := Lib.hid hr
  have k0 : (x7.toList == ([] : List UInt8)) = true := beq_iff_eq.2 hz
  have k1 : x7.toList.isEmpty = true := List.isEmpty_iff.2 hz
  obtain ⟨a1, ha1⟩ : ∃ a, a = some1 x0 := ⟨_, rfl⟩
  obtain ⟨a3, ha3⟩ : ∃ a, a = some1 x2 ++ some1 x3 := ⟨_, rfl⟩
  have HL : Hid ((((((a1 ++ x1) ++ a3) ++ x4) ++ x5.flatMap (fun x => x.f0 :: x.f1)) ++ (if x6 = [] then [] else ⟨#[120]⟩ :: x6)).length ≤ 100000) := Lib.hid (by rw [ha1, ha3]; exact hl)
  have HE : Hid (subL x0 x1 x2 x3 x4 x5 x6 = (((((a1 ++ x1) ++ a3) ++ x4) ++ x5.flatMap (fun x => x.f0 :: x.f1)) ++ (if x6 = [] then [] else ⟨#[120]⟩ :: x6))) := Lib.hid (by rw [ha1, ha3]; rfl)
  have H1 : Hid ([] ++ [x0].flatMap some1 = a1) := Lib.hid (by rw [ha1]; simp)
  have H3 : Hid ([x2, x3].flatMap some1 = a3) := Lib.hid (by rw [ha3]; simp)
  have Y1 := Lib.hid True.intro
  obtain ⟨y2, hy2⟩ : ∃ y_ : List ByteArray, a1 ++ x1 = y_ := ⟨_, rfl⟩
  obtain ⟨y3, hy3⟩ : ∃ y_ : List ByteArray, y2 ++ a3 = y_ := ⟨_, rfl⟩
  obtain ⟨y4, hy4⟩ : ∃ y_ : List ByteArray, y3 ++ x4 = y_ := ⟨_, rfl⟩
  have L0 : Hid (([] : List ByteArray).length ≤ 1000000) := Lib.hid (by have := HL.out; simp only [← hy4, ← hy3, ← hy2, List.length_append, List.length_nil] at this ⊢; omega)
  have L1 : Hid (a1.length ≤ 1000000) := Lib.hid (by have := HL.out; simp only [← hy4, ← hy3, ← hy2, List.length_append, List.length_nil] at this ⊢; omega)
  have L2 : Hid (y2.length ≤ 1000000) := Lib.hid (by have := HL.out; simp only [← hy4, ← hy3, ← hy2, List.length_append, List.length_nil] at this ⊢; omega)
  have L3 : Hid (y3.length ≤ 1000000) := Lib.hid (by have := HL.out; simp only [← hy4, ← hy3, ← hy2, List.length_append, List.length_nil] at this ⊢; omega)
  have L4 : Hid (y4.length ≤ 1000000) := Lib.hid (by have := HL.out; simp only [← hy4, ← hy3, ← hy2, List.length_append, List.length_nil] at this ⊢; omega)
  have Y2 := Lib.hid hy2
  have Y3 := Lib.hid hy3
  have Y4 := Lib.hid hy4
  have T0 := Lib.hid True.intro
  have T1 := Lib.hid True.intro
  have T2 := Lib.hid True.intro
  have T3 := Lib.hid True.intro
  have H3' : Hid (y2 ++ [x2, x3].flatMap some1 = y3) := Lib.hid (by rw [H3.out, hy3])
  have S0 := Lib.hid (Sub.start w #[.string x0, .slice A1 x1.length c1, .string x2, .string x3, .slice A4 x4.length c4, .slice A5 x5.length c5, .slice A6 x6.length c6, .string x7])
  clear hr hz hl ha1 ha3 hy2 hy3 hy4 Y1
  go_enter Tryz.func135, Tryz.ntmps135
  go_wp2_with (first
    | (go_at_call 156; have tok_ := T0; refine ((S0.out).add [x0] _ rfl 1 _ rfl ?hg (by show 1 ≤ 2; decide) L0.out).mono ?_; (case hg => simp); rintro e V1 ⟨rfl, B1, d1, u_, hu_, hS1⟩; rw [H1.out] at hS1 hu_; subst hu_; have ct_ := cells8 hS1.tag; obtain ⟨p10, p11, p12, p13, p14, p15, p16, p17, -⟩ := ct_; have po1 : World.cell? _ ⟨w.heap.size + 1, 0, none⟩ = some _ := (blk_cell hS1.out 0).trans rfl; have pf1 := blk_frozen hS1.out 0; have S1 := Lib.hid hS1; clear hS1; clear T0 tok_)
    | (at_builtin; have tok_ := T1; refine Kd.R_append_row (w0 := V1) Value.string ByteArray.empty (h1 := fun _ => rfl) w.heap.size rfl (.tmp 19) (.tmp 21) 26 9 (.string ⟨#[]⟩) 16 rfl Tryz.underlying26 info9 rfl (by decide) (.slice B1 a1.length d1) a1 x1 A1 x1.length c1 (fun _ => True) rfl rfl ?aF S1.out.g.row ?aR ?aB ?aS ?aL ?_; (case aF => exact fun _ _ => trivial); (case aR => exact Kd.C_below HR.out.1.1 S1.out.below); (case aB => exact Below.refl _ _); (case aS => have := S1.out.size; omega); (case aL => have := L2.out; rw [← Y2.out, List.length_append] at this; omega); intro x_ w2_ hr_ hb_ hg_ hat_; rw [Y2.out] at hr_; obtain ⟨B2, d2, hx_⟩ := Kd.R_slice hr_; have hS2 := S1.out.step hg_ hat_ hr_ hb_; subst hx_; have k2 := blk_grown S1.out.out hg_ (Kd.R_ne S1.out.g.row S1.out.out (by decide)); have k3 : World.cell? _ ⟨w.heap.size + 1, 0, none⟩ = some _ := (blk_cell k2 0).trans rfl; have k4 := blk_frozen k2 0; clear p10 p11 p12 p13 p14 p15 p16 p17 po1 pf1; have ct_ := cells8 hS2.tag; obtain ⟨p20, p21, p22, p23, p24, p25, p26, p27, -⟩ := ct_; have po2 : World.cell? _ ⟨w.heap.size + 1, 0, none⟩ = some _ := (blk_cell hS2.out 0).trans rfl; have pf2 := blk_frozen hS2.out 0; have S2 := Lib.hid hS2; clear hS2; clear hr_ hb_ hg_ hat_ k2 T1 tok_)
    | (go_at_call 156; have tok_ := T2; refine ((S2.out).add [x2, x3] _ rfl 2 _ rfl ?hg (by show 2 ≤ 2; decide) L2.out).mono ?_; (case hg => simp); rintro e V3 ⟨rfl, B3, d3, u_, hu_, hS3⟩; rw [H3'.out] at hS3 hu_; subst hu_; have ct_ := cells8 hS3.tag; obtain ⟨p30, p31, p32, p33, p34, p35, p36, p37, -⟩ := ct_; have po3 : World.cell? _ ⟨w.heap.size + 1, 0, none⟩ = some _ := (blk_cell hS3.out 0).trans rfl; have pf3 := blk_frozen hS3.out 0; have S3 := Lib.hid hS3; clear hS3; clear T2 tok_; clear p20 p21 p22 p23 p24 p25 p26 p27 po2 pf2)
    | (at_builtin; have tok_ := T3; refine Kd.R_append_row (w0 := V3) Value.string ByteArray.empty (h1 := fun _ => rfl) w.heap.size rfl (.tmp 30) (.tmp 32) 26 9 (.string ⟨#[]⟩) 16 rfl Tryz.underlying26 info9 rfl (by decide) (.slice B3 y3.length d3) y3 x4 A4 x4.length c4 (fun _ => True) rfl rfl ?aF S3.out.g.row ?aR ?aB ?aS ?aL ?_; (case aF => exact fun _ _ => trivial); (case aR => exact Kd.C_below HR.out.2.1.1 S3.out.below); (case aB => exact Below.refl _ _); (case aS => have := S3.out.size; omega); (case aL => have := L4.out; rw [← Y4.out, List.length_append] at this; omega); intro x_ w2_ hr_ hb_ hg_ hat_; rw [Y4.out] at hr_; obtain ⟨B4, d4, hx_⟩ := Kd.R_slice hr_; have hS4 := S3.out.step hg_ hat_ hr_ hb_; subst hx_; have k2 := blk_grown S3.out.out hg_ (Kd.R_ne S3.out.g.row S3.out.out (by decide)); have k3 : World.cell? _ ⟨w.heap.size + 1, 0, none⟩ = some _ := (blk_cell k2 0).trans rfl; have k4 := blk_frozen k2 0; clear p30 p31 p32 p33 p34 p35 p36 p37 po3 pf3; have ct_ := cells8 hS4.tag; obtain ⟨p40, p41, p42, p43, p44, p45, p46, p47, -⟩ := ct_; have po4 : World.cell? _ ⟨w.heap.size + 1, 0, none⟩ = some _ := (blk_cell hS4.out 0).trans rfl; have pf4 := blk_frozen hS4.out 0; have S4 := Lib.hid hS4; clear hS4; clear hr_ hb_ hg_ hat_ k2 T3 tok_))
  have L5 : Hid (∀ i, i ≤ x5.length → (y4 ++ (x5.take i).flatMap (fun x => x.f0 :: x.f1)).length ≤ 100000) := Lib.hid (fun i hi => by
    have h1 := HL.out
    rw [Y2.out, Y3.out, Y4.out, List.length_append, List.length_append] at h1
    have h2 : ((x5.take i).flatMap (fun x : S47 => x.f0 :: x.f1)).length ≤ (x5.flatMap (fun x : S47 => x.f0 :: x.f1)).length := by
      conv => rhs; rw [← List.take_append_drop i x5, List.flatMap_append, List.length_append]
      exact Nat.le_add_right _ _
    rw [List.length_append]; omega)
  clear k3 k4 p40 p41 p42 p43 p44 p45 p46 p47 po4 pf4
  go_loopw [37] (fun iv wr => ∃ (i : Nat) (acc : List ByteArray) (B : Option Addr) (d : Nat), iv = .int .i64 (i : Int) ∧ Hid (i ≤ x5.length) ∧ Hid (y4 ++ (x5.take i).flatMap (fun x => x.f0 :: x.f1) = acc) ∧ Hid (Sub w #[.string x0, .slice A1 x1.length c1, .string x2, .string x3, .slice A4 x4.length c4, .slice A5 x5.length c5, .slice A6 x6.length c6, .string x7] wr (.slice B acc.length d) acc)) (fun iv _ => x5.length - (intOf iv).toNat)
  case atStart => exact ⟨0, y4, B4, d4, rfl, Lib.hid (Nat.zero_le _), Lib.hid (by rw [List.take_zero, List.flatMap_nil, List.append_nil]), S4⟩
  case round =>
    clear S4
    obtain ⟨i, acc, B, d, rfl, hi, ha, hS⟩ := hrel
    by_cases hlt : i < x5.length
    · have hm := Kd.C_max HR.out.2.2.1.1
      replace hm : x5.length ≤ 9223372036854775807 := hm
      have hw2 : wrap64 ((i : Int) + 1) = ((i + 1 : Nat) : Int) := by unfold wrap64; omega
      obtain ⟨ad, E1, k1, hA, hx0, hx1, lx, gx⟩ := at_T47 HR.out.2.2.1.1 (i : Int) (by omega) (by dsimp only; omega)

      subst hA
      rw [Int.toNat_natCast] at hx0 hx1

      rw [getR x5 i hlt] at hx0 hx1 lx gx
      have hi0 : (0 : Int) ≤ (i : Int) := Int.natCast_nonneg _
      have q0 : ((i : Int) < (x5.length : Int)) := by omega
      have q2 : decide ((i : Int) < (x5.length : Int)) = true := decide_eq_true q0
      have htk : y4 ++ (x5.take (i + 1)).flatMap (fun x => x.f0 :: x.f1) = (acc ++ [x5[i].f0]) ++ x5[i].f1 := by
        rw [← ha.out, List.take_succ_eq_append_getElem hlt, List.flatMap_append, List.flatMap_singleton]
        simp [List.append_assoc]
      have hln := L5.out (i + 1) hlt
      obtain ⟨ky, hky⟩ : ∃ k, k = x5[i].f0 := ⟨_, rfl⟩
      obtain ⟨sb, hsb⟩ : ∃ k, k = x5[i].f1 := ⟨_, rfl⟩
      rw [← hky] at hx0
      rw [← hsb] at hx1 lx gx
      rw [← hky, ← hsb] at htk
      obtain ⟨z1, hz1⟩ : ∃ z, z = acc ++ [ky] := ⟨_, rfl⟩
      rw [← hz1] at htk
      obtain ⟨z2, hz2⟩ : ∃ z, z = z1 ++ sb := ⟨_, rfl⟩
      rw [htk, ← hz2] at hln
      rw [← hz2] at htk
      replace hx0 := pw_cell_below hS.out.below hx0
      replace hx1 := pw_cell_below hS.out.below hx1
      have TK := Lib.hid htk
      have LN := Lib.hid hln
      have Z1 := Lib.hid hz1
      have Z2 := Lib.hid hz2
      have LX := Lib.hid lx
      have GX := Lib.hid gx
      have HLT := Lib.hid hlt
      have HW2 := Lib.hid hw2
      clear htk hln hz1 hz2 lx gx hw2 hm hlt hky hsb
      have SD := Lib.hid ((hS.out.alloc (.cells #[.string ky, .slice E1 sb.length k1] 47)).drew)
      have BD := Lib.hid (blk_on (new_blk wr (.cells #[.string ky, .slice E1 sb.length k1] 47)) (below_drew (Below.refl _ _)))
      have BR := Lib.hid (blk_on BD.out (below_alloc (Below.refl (wr.alloc (.cells #[.string ky, .slice E1 sb.length k1] 47)).drew.heap.size (wr.alloc (.cells #[.string ky, .slice E1 sb.length k1] 47)).drew) (.cells #[.string ky] 9)))
      have SR := Lib.hid (SD.out.alloc (.cells #[.string ky] 9))
      have oD : World.cell? (wr.alloc (.cells #[.string ky, .slice E1 sb.length k1] 47)).drew ⟨w.heap.size + 1, 0, none⟩ = some _ := (blk_cell SD.out.out 0).trans rfl
      have oR : World.cell? ((wr.alloc (.cells #[.string ky, .slice E1 sb.length k1] 47)).alloc (.cells #[.string ky] 9)).drew ⟨w.heap.size + 1, 0, none⟩ = some (.slice B acc.length d) := (blk_cell SR.out.out 0).trans rfl
      have o0 : World.cell? wr ⟨w.heap.size + 1, 0, none⟩ = some _ := (blk_cell hS.out.out 0).trans rfl
      have n1 : ¬ (w.heap.size + 1 = wr.heap.size) := by have := hS.out.size; omega
      have n2 : ¬ (w.heap.size = wr.heap.size) := by have := hS.out.size; omega
      have n3 : ¬ (wr.heap.size = w.heap.size + 1) := by omega
      have n4 : w.heap.size + 1 < wr.heap.size := by have := hS.out.size; omega
      have BL := Lib.hid (below_drew (below_alloc (hS.out.below) (.cells #[.string ky, .slice E1 sb.length k1] 47)))
      have SZ := Lib.hid hS.out.size
      have KS := Lib.hid (fun (V : World) (hV : V.heap[wr.heap.size]? = some (.cells #[.string ky, .slice E1 sb.length k1] 47 (0, 0))) => show V.cell? ⟨wr.heap.size, 0, none⟩ = some (.string ky) ∧ V.cell? ⟨wr.heap.size, 1, none⟩ = some (.slice E1 sb.length k1) from ⟨(blk_cell hV 0).trans rfl, (blk_cell hV 1).trans rfl⟩)
      go_wp2
      refine start_ (n := 9) (S := fun w' => w'.cell? ⟨wr.heap.size, 0, none⟩ = some (.string ky) ∧ w'.cell? ⟨wr.heap.size, 1, none⟩ = some (.slice E1 sb.length k1) ∧ w'.cell? ⟨w.heap.size + 1, 0, none⟩ = some (.slice B acc.length d)) (ds := [8]) #[false, false, false, false, false, false, false, false, false] (by kernel_rfl) rfl rfl ⟨(KS.out _ BD.out).1, (KS.out _ BD.out).2, oD⟩ (fun hHeld => ?_); refine with_tabW sub_tab9 sub_bits9 (fun HT_ HW_ => ?_)
      refine pu_ (i := 1) (N := some 42) HT_ (bl_ 9 2) ?_
      refine pu_ (i := 5) (N := some 46) HT_ (bl_ 9 34) ?_
      refine tk_ (i := 0) (N := some 41) HT_ HW_ (bl_ 9 35) hHeld ?_ (hy := by rintro w' ⟨s0, s1, s2⟩; go_simp; with_reducible rfl)
      refine tk_ (i := 2) (N := some 43) HT_ HW_ (bl_ 9 39) hHeld ?_ (hy := by rintro w' ⟨s0, s1, s2⟩; go_simp; with_reducible rfl)
      refine tk_ (i := 6) (N := some 47) HT_ HW_ (bl_ 9 103) hHeld ?_ (hy := by rintro w' ⟨s0, s1, s2⟩; go_simp; with_reducible rfl)
      refine on_ (i := 3) (N := some 44) HT_ (bl_ 9 111) rfl rfl (fun K hK => ?_)
      refine value_ (w1 := ?_) (v := ?_) (by rfl) rfl ?_ ?_
      rotate_left 2
      · go_simp
        constructor
        · rfl
        · rfl
      refine hK.out _ _ ⟨(KS.out _ BR.out).1, (KS.out _ BR.out).2, oR⟩ (fun hHeld => ?_)
      clear hK K
      refine nm_ (some 44) ?_
      refine on_ (i := 4) (N := some 45) HT_ (bl_ 9 127) rfl rfl (fun K hK => ?_)
      (refine Kd.R_append_step Kd.string (w0 := (wr.alloc (.cells #[.string ky, .slice E1 sb.length k1] 47)).drew) w.heap.size (by rfl) (.tmp 41) (.tmp 44) 26 9 (.string ⟨#[]⟩) 16 rfl Tryz.underlying26 info9 rfl (by decide) (by decide) (.slice B acc.length d) acc ky [.string ky] (fun _ => True) (fun _ => False) rfl ?aX rfl (fun _ hk => hk.elim) (fun _ _ => trivial) SD.out.g.row (Below.refl _ _) ?aS ?aL ?_; (case aX => first | rfl | (show Value.slice (some ⟨wr.heap.size + 1, 0, none⟩) 1 1 = _; simp)); (case aS => have := SD.out.size; omega); (case aL => have := LN.out; rw [Z2.out, Z1.out, List.length_append, List.length_append, List.length_singleton] at this; omega); intro v1_ w2 hr_ hb_ hg_ hat_; rw [← Z1.out] at hr_; obtain ⟨P1, e1, hx_⟩ := Kd.R_slice hr_; subst hx_; have BQ := Lib.hid (blk_grown BD.out hg_ (Kd.R_ne SD.out.g.row BD.out (by decide))); have oQ := Lib.hid (blk_grown SD.out.out hg_ (Kd.R_ne SD.out.g.row SD.out.out (by decide))); have R2 := Lib.hid hr_; have B2 := Lib.hid hb_; have G2 := Lib.hid hg_; have A2 := Lib.hid hat_; clear hr_ hb_ hg_ hat_)
      refine hK.out _ _ ⟨(KS.out _ BQ.out).1, (KS.out _ BQ.out).2, (blk_cell oQ.out 0).trans rfl⟩ (fun hHeld => ?_)
      clear hK K
      refine nm_ (some 45) ?_
      refine on_ (i := 7) (N := some 48) HT_ (bl_ 9 255) rfl rfl (fun K hK => ?_)
      (refine Kd.R_append_rows_step Kd.string (w0 := (wr.alloc (.cells #[.string ky, .slice E1 sb.length k1] 47)).drew) w.heap.size (by rfl) (.tmp 45) (.tmp 47) 26 9 (.string ⟨#[]⟩) 16 rfl Tryz.underlying26 info9 rfl (by decide) (by decide) (.slice P1 z1.length e1) z1 sb E1 sb.length k1 (fun _ => True) (fun _ => False) rfl rfl R2.out (Kd.C_below GX.out (BL.out.trans B2.out)) (fun _ _ h => h) (fun _ hk => hk.elim) (fun _ _ => trivial) B2.out ?aS ?aL ?_; (case aS => have := SD.out.size; have := B2.out.size; omega); (case aL => have := LN.out; rw [Z2.out, List.length_append] at this; omega); intro v3_ w3 hr_ hb_ hg_ hat_; rw [← Z2.out] at hr_; obtain ⟨P2, e2, hx_⟩ := Kd.R_slice hr_; subst hx_; have BP := Lib.hid (blk_grown BQ.out hg_ (Kd.R_ne R2.out BQ.out (by decide))); have oP := Lib.hid (blk_grown oQ.out hg_ (Kd.R_ne R2.out oQ.out (by decide))); have oc : World.cell? _ ⟨w.heap.size + 1, 0, none⟩ = some _ := (blk_cell oP.out 0).trans rfl; have of := blk_frozen oP.out 0; have BS := Lib.hid (blk_far (p := ⟨w.heap.size + 1, 0, none⟩) BP.out (by have := SZ.out; show wr.heap.size ≠ w.heap.size + 1; omega) (.slice P2 z2.length e2)); have S5 : Hid (Sub w #[.string x0, .slice A1 x1.length c1, .string x2, .string x3, .slice A4 x4.length c4, .slice (some ad) x5.length c5, .slice A6 x6.length c6, .string x7] (w3.setCell ⟨w.heap.size + 1, 0, none⟩ (.slice P2 z2.length e2)) (.slice P2 z2.length e2) z2) := Lib.hid (SD.out.step (grown_two G2.out hg_ A2.out) (at_two G2.out.size A2.out hat_) hr_ hb_); clear hr_ hb_ hg_ hat_)
      refine hK.out _ _ ⟨(KS.out _ BP.out).1, (KS.out _ BP.out).2, (blk_cell oP.out 0).trans rfl⟩ (fun hHeld => ?_)
      clear hK K
      refine nm_ (some 48) ?_
      refine last_ (i := 8) (N := none) #[true, true, true, true, true, true, true, true, true] rfl rfl (one_of HT_.out (by kernel_rfl)) (by decide) (fun K hK => ?_)
      refine skip_ (w1 := ?_) (by rfl) rfl ?_ ?_
      rotate_left
      · go_simp
        rfl
      refine hK.out _ _ ?_
      clear hK K
      refine done_ (done_of HT_.out (by kernel_rfl)) ?_
      all_goals go_wp2
      all_goals
        refine ⟨⟨i + 1, z2, P2, e2, by rw [HW2.out], Lib.hid (Nat.succ_le_of_lt HLT.out), TK, S5⟩, ?_⟩
        rw [HW2.out]
        show x5.length - ((i + 1 : Nat) : Int).toNat < x5.length - (i : Int).toNat
        have := HLT.out
        omega
    · have q0 : ¬ ((i : Int) < (x5.length : Int)) := by omega
      have q2 : decide ((i : Int) < (x5.length : Int)) = false := decide_eq_false q0
      have hacc : y4 ++ x5.flatMap (fun x => x.f0 :: x.f1) = acc := by rw [← ha.out, List.take_of_length_le (by omega)]
      have ct_ := cells8 hS.out.tag
      obtain ⟨p0, p1, p2, p3, p4, p5, p6, p7, -⟩ := ct_
      have po : World.cell? wr ⟨w.heap.size + 1, 0, none⟩ = some _ := (blk_cell hS.out.out 0).trans rfl
      have hl2 := HL.out
      have he2 := HE.out
      rw [Y2.out, Y3.out, Y4.out, hacc] at hl2 he2
      clear hi ha HE HL
      by_cases hx : x6 = []
      · have q3 : (0 < (x6.length : Int)) = False := by rw [hx]; simp
        have q4 : decide ((0 : Int) < (x6.length : Int)) = false := by rw [hx]; rfl
        have HE := Lib.hid (show subL x0 x1 x2 x3 x4 x5 x6 = acc by rw [he2, if_pos hx, List.append_nil])
        clear hl2 he2 hacc
        have q5 : x6.length = 0 := by rw [hx]; rfl
        clear hx
        go_wp2
        go_ret
        exact ⟨_, rfl, by rw [HE.out]; exact hS.out.g.row, hS.out.below⟩
      · have hpos : 0 < x6.length := List.length_pos_iff.2 hx
        have q3 : (0 : Int) < (x6.length : Int) := by omega
        have q4 : decide ((0 : Int) < (x6.length : Int)) = true := decide_eq_true q3
        obtain ⟨z1, hz1⟩ : ∃ z, z = acc ++ [(⟨#[120]⟩ : ByteArray)] := ⟨_, rfl⟩
        obtain ⟨z2, hz2⟩ : ∃ z, z = z1 ++ x6 := ⟨_, rfl⟩
        have hz : acc ++ (if x6 = [] then [] else ⟨#[120]⟩ :: x6) = z2 := by rw [if_neg hx, hz2, hz1]; simp
        rw [hz] at hl2 he2
        have LN := Lib.hid hl2
        have HE := Lib.hid he2
        have Z1 := Lib.hid hz1
        have Z2 := Lib.hid hz2
        clear hl2 he2 hz1 hz2 hz hx hacc hpos
        have SD := Lib.hid hS.out.drew
        have SR := Lib.hid (SD.out.alloc (.cells #[.string ⟨#[120]⟩] 9))
        have oD : World.cell? wr.drew ⟨w.heap.size + 1, 0, none⟩ = some _ := (blk_cell SD.out.out 0).trans rfl
        have oR : World.cell? (wr.alloc (.cells #[.string ⟨#[120]⟩] 9)).drew ⟨w.heap.size + 1, 0, none⟩ = some (.slice B acc.length d) := (blk_cell SR.out.out 0).trans rfl
        have KS := Lib.hid (fun (V : World) (hV : V.heap[w.heap.size]? = some (.cells #[.string x0, .slice A1 x1.length c1, .string x2, .string x3, .slice A4 x4.length c4, .slice A5 x5.length c5, .slice A6 x6.length c6, .string x7] 29 (0, 0))) => show V.cell? ⟨w.heap.size, 6, none⟩ = some (.slice A6 x6.length c6) from (blk_cell hV 6).trans rfl)
        go_wp2
        refine start_ (n := 7) (S := fun w' => w'.cell? ⟨w.heap.size, 6, none⟩ = some (.slice A6 x6.length c6) ∧ w'.cell? ⟨w.heap.size + 1, 0, none⟩ = some (.slice B acc.length d)) (ds := [6]) #[false, false, false, false, false, false, false] (by kernel_rfl) rfl rfl ⟨KS.out _ SD.out.tag, oD⟩ (fun hHeld => ?_); refine with_tabW sub_tab7 sub_bits7 (fun HT_ HW_ => ?_)
        refine pu_ (i := 3) (N := some 57) HT_ (bl_ 7 8) ?_
        refine tk_ (i := 0) (N := some 54) HT_ HW_ (bl_ 7 9) hHeld ?_ (hy := by rintro w' ⟨s0, s1⟩; go_simp; with_reducible rfl)
        refine tk_ (i := 4) (N := some 58) HT_ HW_ (bl_ 7 25) hHeld ?_ (hy := by rintro w' ⟨s0, s1⟩; go_simp; with_reducible rfl)
        refine on_ (i := 1) (N := some 55) HT_ (bl_ 7 27) rfl rfl (fun K hK => ?_)
        refine value_ (w1 := ?_) (v := ?_) (by rfl) rfl ?_ ?_
        rotate_left 2
        · go_simp
          constructor
          · rfl
          · rfl
        refine hK.out _ _ ⟨KS.out _ SR.out.tag, oR⟩ (fun hHeld => ?_)
        clear hK K
        refine nm_ (some 55) ?_
        refine on_ (i := 2) (N := some 56) HT_ (bl_ 7 31) rfl rfl (fun K hK => ?_)
        (refine Kd.R_append_step Kd.string (w0 := wr.drew) w.heap.size (by rfl) (.tmp 54) (.tmp 55) 26 9 (.string ⟨#[]⟩) 16 rfl Tryz.underlying26 info9 rfl (by decide) (by decide) (.slice B acc.length d) acc ⟨#[120]⟩ [.string ⟨#[120]⟩] (fun _ => True) (fun _ => False) rfl ?aX rfl (fun _ hk => hk.elim) (fun _ _ => trivial) SD.out.g.row (Below.refl _ _) ?aS ?aL ?_; (case aX => first | rfl | (show Value.slice (some ⟨wr.heap.size, 0, none⟩) 1 1 = _; simp)); (case aS => have := SD.out.size; omega); (case aL => have := LN.out; rw [Z2.out, Z1.out, List.length_append, List.length_append, List.length_singleton] at this; omega); intro v1_ w2 hr_ hb_ hg_ hat_; rw [← Z1.out] at hr_; obtain ⟨P1, e1, hx_⟩ := Kd.R_slice hr_; subst hx_; have BQ := Lib.hid (blk_grown SD.out.tag hg_ (Kd.R_ne SD.out.g.row SD.out.tag (by decide))); have oQ := Lib.hid (blk_grown SD.out.out hg_ (Kd.R_ne SD.out.g.row SD.out.out (by decide))); have R2 := Lib.hid hr_; have B2 := Lib.hid hb_; have G2 := Lib.hid hg_; have A2 := Lib.hid hat_; clear hr_ hb_ hg_ hat_)
        refine hK.out _ _ ⟨KS.out _ BQ.out, (blk_cell oQ.out 0).trans rfl⟩ (fun hHeld => ?_)
        clear hK K
        refine nm_ (some 56) ?_
        refine on_ (i := 5) (N := some 59) HT_ (bl_ 7 63) rfl rfl (fun K hK => ?_)
        (refine Kd.R_append_rows_step Kd.string (w0 := wr.drew) w.heap.size (by rfl) (.tmp 56) (.tmp 58) 26 9 (.string ⟨#[]⟩) 16 rfl Tryz.underlying26 info9 rfl (by decide) (by decide) (.slice P1 z1.length e1) z1 x6 A6 x6.length c6 (fun _ => True) (fun _ => False) rfl rfl R2.out (Kd.C_below HR.out.2.2.2.1 (SD.out.below.trans B2.out)) (fun _ _ h => h) (fun _ hk => hk.elim) (fun _ _ => trivial) B2.out ?aS ?aL ?_; (case aS => have := SD.out.size; have := B2.out.size; omega); (case aL => have := LN.out; rw [Z2.out, List.length_append] at this; omega); intro v3_ w3 hr_ hb_ hg_ hat_; rw [← Z2.out] at hr_; obtain ⟨P2, e2, hx_⟩ := Kd.R_slice hr_; subst hx_; have BP := Lib.hid (blk_grown BQ.out hg_ (Kd.R_ne R2.out BQ.out (by decide))); have oP := Lib.hid (blk_grown oQ.out hg_ (Kd.R_ne R2.out oQ.out (by decide))); have oc : World.cell? _ ⟨w.heap.size + 1, 0, none⟩ = some _ := (blk_cell oP.out 0).trans rfl; have of := blk_frozen oP.out 0; have S5 : Hid (Sub w #[.string x0, .slice A1 x1.length c1, .string x2, .string x3, .slice A4 x4.length c4, .slice A5 x5.length c5, .slice A6 x6.length c6, .string x7] (w3.setCell ⟨w.heap.size + 1, 0, none⟩ (.slice P2 z2.length e2)) (.slice P2 z2.length e2) z2) := Lib.hid (SD.out.step (grown_two G2.out hg_ A2.out) (at_two G2.out.size A2.out hat_) hr_ hb_); have oS : World.cell? (w3.setCell ⟨w.heap.size + 1, 0, none⟩ (.slice P2 z2.length e2)) ⟨w.heap.size + 1, 0, none⟩ = some _ := (blk_cell S5.out.out 0).trans rfl; clear hr_ hb_ hg_ hat_)
        refine hK.out _ _ ⟨KS.out _ BP.out, (blk_cell oP.out 0).trans rfl⟩ (fun hHeld => ?_)
        clear hK K
        refine nm_ (some 59) ?_
        refine last_ (i := 6) (N := none) #[true, true, true, true, true, true, true] rfl rfl (one_of HT_.out (by kernel_rfl)) (by decide) (fun K hK => ?_)
        refine skip_ (w1 := ?_) (by rfl) rfl ?_ ?_
        rotate_left
        · go_simp
          rfl
        refine hK.out _ _ ?_
        clear hK K
        refine done_ (done_of HT_.out (by kernel_rfl)) ?_
        all_goals go_wp2
        all_goals go_ret
        all_goals exact ⟨_, rfl, by rw [HE.out]; exact S5.out.g.row, S5.out.below⟩
set_option maxRecDepth 100000 in
set_option maxHeartbeats 8000000 in
theorem tag_Subtags.calls (a0_0 : ByteArray) (A0_1 : Option Addr) (c0_1 : Nat) (l0_1 : List ByteArray) (a0_2 : ByteArray) (a0_3 : ByteArray) (A0_4 : Option Addr) (c0_4 : Nat) (l0_4 : List ByteArray) (A0_5 : Option Addr) (c0_5 : Nat) (l0_5 : List (S47)) (A0_6 : Option Addr) (c0_6 : Nat) (l0_6 : List ByteArray) (a0_7 : ByteArray) (r : List ByteArray) (w : World) (hr0_1 : Kd.C Kd.string w A0_1 l0_1.length l0_1) (hc0_1 : l0_1.length ≤ c0_1) (hr0_4 : Kd.C Kd.string w A0_4 l0_4.length l0_4) (hc0_4 : l0_4.length ≤ c0_4) (hr0_5 : Kd.C k47 w A0_5 l0_5.length l0_5) (hc0_5 : l0_5.length ≤ c0_5) (hr0_6 : Kd.C Kd.string w A0_6 l0_6.length l0_6) (hc0_6 : l0_6.length ≤ c0_6) (h : tag_Subtags.f a0_0 l0_1 a0_2 a0_3 l0_4 l0_5 l0_6 a0_7 = some r) :
    Calls Tryz.prog 135 #[.agg #[.string a0_0, .slice A0_1 l0_1.length c0_1, .string a0_2, .string a0_3, .slice A0_4 l0_4.length c0_4, .slice A0_5 l0_5.length c0_5, .slice A0_6 l0_6.length c0_6, .string a0_7]] w fun e w' => ∃ v0_ : Value, e = .returned (v0_) ∧ Kd.R Kd.string 9 w' w.heap.size (fun _ => True) v0_ r ∧ Below w.heap.size w w' := by
  unfold tag_Subtags.f at h
  by_cases hz : a0_7.toList = ([] : List UInt8)
  · rw [if_pos hz] at h
    by_cases hl : (subL a0_0 l0_1 a0_2 a0_3 l0_4 l0_5 l0_6).length ≤ 100000
    · rw [if_pos hl] at h
      obtain rfl := Option.some.inj h
      exact Subtags_some ⟨a0_0, l0_1, a0_2, a0_3, l0_4, l0_5, l0_6, a0_7⟩ A0_1 c0_1 A0_4 c0_4 A0_5 c0_5 A0_6 c0_6 w ⟨⟨hr0_1, hc0_1⟩, ⟨hr0_4, hc0_4⟩, ⟨hr0_5, hc0_5⟩, ⟨hr0_6, hc0_6⟩⟩ hz hl
    · rw [if_neg hl] at h; cases h
  · rw [if_neg hz] at h
    have H := Lib.hid h
    have k0 : (a0_7.toList == ([] : List UInt8)) = false := beq_eq_false_iff_ne.2 hz
    have k1 : a0_7.toList.isEmpty = false := List.isEmpty_eq_false_iff.2 hz
    clear h hz hr0_1 hc0_1 hr0_4 hc0_4 hr0_5 hc0_5 hr0_6 hc0_6
    go_enter Tryz.func135, Tryz.ntmps135
    go_wp2_with (go_at_call 100; refine (split_Split.calls a0_7 r _ H.out).mono ?_; rintro e w2 ⟨v, rfl, hr, hb⟩)
    go_ret
    exact ⟨_, rfl, Kd.R_lower hr (by simp), ((Below.refl w.heap.size w).alloc (Nat.le_refl _) _).trans (hb.mono (by simp))⟩
end Go.Proofs.YtejnfbfikadpdaaGreatDoor.P
