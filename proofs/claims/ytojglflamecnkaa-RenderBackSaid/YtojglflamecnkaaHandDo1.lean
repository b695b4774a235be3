/- The document's Parse, walked: it answers as the program's does. -/
import Derived.Test.YtojglflamecnkaaHandDs
import Derived.Deep.DeepCutAuto
import Derived.Deep.CutBlock
import Derived.Test.YtojglflamecnkaaPx13
import Derived.Test.YtojglflamecnkaaPx6
import Derived.Test.YtojglflamecnkaaPx14
import Derived.Test.YtojglflamecnkaaPx15
namespace Go.Proofs.Ytojglflamecnkaa.P
open Go.RowKit Go.Shelf Go.Proofs.YtojglflamecnkaaW.PrintWords Go.Proofs.YtojglflamecnkaaW.PrintLast Go.Proofs.YtojglflamecnkaaW.PrintMore Go.Proofs.Ytojglflamecnkaa.Iso
set_option linter.unusedVariables false
set_option linter.unusedSimpArgs false
attribute [local go_sem] Oper.semAt_some
structure Dc (w0 wL wp W : World) (g h : Nat) (L : List P04) (ps : List PieceR) (E : Int) (T : TG) (v1 v4 v5 v6 : Value) : Prop where
  dr : Dr wL W g L ps E
  b0 : Below w0.heap.size w0 wL
  gh : g < h
  hp : h < wp.heap.size
  size : wp.heap.size ≤ W.heap.size
  tg : W.heap[h]? = some (.cells #[.string T.lang, v1, .string T.script, .string T.region, v4, v5, v6, .string T.grand] 34 (0, 0))
  own : OwnT W wp.heap.size v1 v4 v5 v6 T.ext T.vars T.exts T.priv
section
variable {w0 wL wp W W' : World} {g h : Nat} {L : List P04} {ps t : List PieceR} {p : PieceR} {E : Int} {T : TG} {v1 v4 v5 v6 : Value}
theorem Dc.step (d : Dc w0 wL wp W g h L ps E T v1 v4 v5 v6) (hb : Below W.heap.size W W') : Dc w0 wL wp W' g h L ps E T v1 v4 v5 v6 :=
  ⟨d.dr.step hb, d.b0, d.gh, d.hp, Nat.le_trans d.size hb.size, blk_on d.tg hb, d.own.below hb⟩
theorem ownT_setQ {W : World} {base : Nat} {v1 v4 v5 v6 : Value} {l1 l4 : List ByteArray} {l5 : List S62} {l6 : List ByteArray} (h : OwnT W base v1 v4 v5 v6 l1 l4 l5 l6) {g : Nat} {cells : Array Value} {t : TypeId} (hb : W.heap[g]? = some (.cells cells t (0, 0))) (h1 : ∀ q ∈ 9 :: Kd.string.E, q ≠ t) (h2 : ∀ q ∈ 62 :: k62.E, q ≠ t) (j : Nat) (u : Value) : OwnT (W.setCell ⟨g, j, none⟩ u) base v1 v4 v5 v6 l1 l4 l5 l6 :=
  ⟨Kd.R_set h.1 hb h1 j u, Kd.R_set h.2.1 hb h1 j u, Kd.S_set h.2.2.1 hb h2 j u, Kd.R_set h.2.2.2 hb h1 j u⟩
theorem dc_next {A : Option Addr} {c i : Nat} (d : Dc w0 wL wp W g h L ps E T v1 v4 v5 v6) (hps : ps = p :: t)
    (hgi : W.heap[g]? = some (.cells #[.slice A L.length c, .int .i64 (i : Int), .int .i64 E] 68 (0, 0))) : Dc w0 wL wp (W.setCell ⟨g, 1, none⟩ (.int .i64 ((i : Int) + 1))) g h L t E T v1 v4 v5 v6 :=
  ⟨dr_next d.dr hps hgi, d.b0, d.gh, d.hp, by have := d.size; simpa using this, blk_far d.tg (p := ⟨g, 1, none⟩) (by have := d.gh; show h ≠ g; omega) _, ownT_setQ d.own hgi (by decide) (by decide) 1 _⟩
theorem Dr.far {k j : Nat} {u : Value} (d : Dr wL W g L ps E) (hk : wL.heap.size ≤ k) (hne : g ≠ k) : Dr wL (W.setCell ⟨k, j, none⟩ u) g L ps E := by
  obtain ⟨A, c, i, hgi, hc, hp, hi, hps⟩ := d.rd
  exact ⟨d.blw.setCell (p := ⟨k, j, none⟩) hk _, d.gl, d.few, d.small, A, c, i, blk_far hgi (p := ⟨k, j, none⟩) hne _, hc, hp, hi, hps⟩
theorem Dc.putS (d : Dc w0 wL wp W g h L ps E T v1 v4 v5 v6) (j : Nat) (u : Value) (T' : TG) (h1 : T'.ext = T.ext) (h4 : T'.vars = T.vars) (h5 : T'.exts = T.exts) (h6 : T'.priv = T.priv)
    (hc : (#[.string T.lang, v1, .string T.script, .string T.region, v4, v5, v6, .string T.grand] : Array Value).setIfInBounds j u = #[.string T'.lang, v1, .string T'.script, .string T'.region, v4, v5, v6, .string T'.grand]) : Dc w0 wL wp (W.setCell ⟨h, j, none⟩ u) g h L ps E T' v1 v4 v5 v6 := by
  have hg := d.gh
  have hl := d.dr.gl
  refine ⟨d.dr.far (by omega) (by omega), d.b0, d.gh, d.hp, by have := d.size; simpa using this, blk_put d.tg j u hc, ?_⟩
  rw [h1, h4, h5, h6]
  exact ownT_setQ d.own d.tg (by decide) (by decide) j u
end
theorem each_low (s : ByteArray) : (((each (bl s)).map fun p => (⟨(p.1 : Int), mk p.2⟩ : P04)).map lowP) = piecesOf s := by
  rw [piecesOf_off, List.map_map]
  unfold offP each
  refine List.map_congr_left fun p _ => ?_
  show (⟨(p.1 : Int), mk (low (bl (mk p.2)))⟩ : PieceR) = _
  rw [bl_mk]
def GotSaid (w : World) (r : PRes) (e : Ending) (W' : World) : Prop :=
  Below w.heap.size w W' ∧ match r with
  | .good T => ∃ A1 c1 A4 c4 A5 c5 A6 c6, e = .returned (.agg #[.string T.lang, .slice A1 T.ext.length c1, .string T.script, .string T.region, .slice A4 T.vars.length c4, .slice A5 T.exts.length c5, .slice A6 T.priv.length c6, .string T.grand, .int .i64 0, .int .i64 0, .string ⟨#[]⟩]) ∧ RowsC W' T A1 c1 A4 c4 A5 c5 A6 c6 ∧ OwnT W' 0 (.slice A1 T.ext.length c1) (.slice A4 T.vars.length c4) (.slice A5 T.exts.length c5) (.slice A6 T.priv.length c6) T.ext T.vars T.exts T.priv
  | .bad k a s => e = .returned (zGot k a s)
abbrev z0Got : Array Value := #[.string ⟨#[]⟩, .slice none 0 0, .string ⟨#[]⟩, .string ⟨#[]⟩, .slice none 0 0, .slice none 0 0, .slice none 0 0, .string ⟨#[]⟩, .int .i64 0, .int .i64 0, .string ⟨#[]⟩]
section
variable {w wL wp W : World} {g h : Nat} {L : List P04} {ps : List PieceR} {E : Int} {T : TG} {v1 v4 v5 v6 : Value} {r : PRes} {tmps : Array Value}
theorem doc_bad (d : Dc w wL wp W g h L ps E T v1 v4 v5 v6) (hn : wL.heap[w.heap.size]? = some (.cells z0Got 40 (0, 0))) (k a : Int) (x : ByteArray) (hr : r = .bad k a x) (hp : tmps.getD 2 undef = .pointer (some ⟨w.heap.size, 0, none⟩)) :
    bodyPost Try.prog Try.f18 (fun e W' => GotSaid w r e W') Exit.ret { tmps := tmps, defers := [] } (((((((((((W.setCell ⟨w.heap.size, 0, none⟩ (.string ⟨#[]⟩)).setCell ⟨w.heap.size, 1, none⟩ (.slice none 0 0)).setCell ⟨w.heap.size, 2, none⟩ (.string ⟨#[]⟩)).setCell ⟨w.heap.size, 3, none⟩ (.string ⟨#[]⟩)).setCell ⟨w.heap.size, 4, none⟩ (.slice none 0 0)).setCell ⟨w.heap.size, 5, none⟩ (.slice none 0 0)).setCell ⟨w.heap.size, 6, none⟩ (.slice none 0 0)).setCell ⟨w.heap.size, 7, none⟩ (.string ⟨#[]⟩)).setCell ⟨w.heap.size, 8, none⟩ (.int .i64 k)).setCell ⟨w.heap.size, 9, none⟩ (.int .i64 a)).setCell ⟨w.heap.size, 10, none⟩ (.string x)) := by
  have hN := blk_on hn d.dr.blw
  have hb : Below w.heap.size w W := d.b0.trans (below_lower d.dr.blw (Nat.le_of_lt (blk_lt hn)))
  refine bodyPost_ret (results_cell_row rfl _ _ w.heap.size 40 (#[.string ⟨#[]⟩, .slice none 0 0, .string ⟨#[]⟩, .string ⟨#[]⟩, .slice none 0 0, .slice none 0 0, .slice none 0 0, .string ⟨#[]⟩, .int .i64 k, .int .i64 a, .string x]) (0, 0) _ hp (put11 hN _ _ _ _ _ _ _ _ _ _ _) Try.underlying40 rfl (by kernel_rfl)) rfl ?_
  subst hr
  exact ⟨below11 hb (Nat.le_refl _) _ _ _ _ _ _ _ _ _ _ _, rfl⟩
end
section
variable {w0 wL wp W w1 : World} {g h : Nat} {L : List P04} {ps : List PieceR} {E : Int} {T : TG} {v1 v4 v5 v6 u : Value} {l : List ByteArray} {l5 : List S62}
theorem Dc.app1 (d : Dc w0 wL wp W g h L ps E T v1 v4 v5 v6) (hb : Below wp.heap.size W w1) (hg : W.grownBy w1 v1.ownBlock) (hat : u.ownBlock = v1.ownBlock ∨ ∃ b, u.ownBlock = some b ∧ W.heap.size ≤ b)
    (hr : Kd.R Kd.string 9 w1 wp.heap.size (fun k_ => some k_ ≠ v4.ownBlock ∧ some k_ ≠ v6.ownBlock) u l) : Dc w0 wL wp (w1.setCell ⟨h, 1, none⟩ u) g h L ps E { T with ext := l } u v4 v5 v6 := by
  have hgl := d.dr.gl
  have hgh := d.gh
  have ht := (hb.block h d.hp).trans d.tg
  exact ⟨(d.dr.stepW hb (Nat.lt_trans d.gh d.hp)).far (by omega) (by omega), d.b0, d.gh, d.hp, by have := Nat.le_trans d.size hb.size; simpa using this, blk_put ht 1 u rfl, ownT_setQ (d.own.app1 hg hat hr) ht (by decide) (by decide) 1 u⟩
theorem Dc.app4 (d : Dc w0 wL wp W g h L ps E T v1 v4 v5 v6) (hb : Below wp.heap.size W w1) (hg : W.grownBy w1 v4.ownBlock) (hat : u.ownBlock = v4.ownBlock ∨ ∃ b, u.ownBlock = some b ∧ W.heap.size ≤ b)
    (hr : Kd.R Kd.string 9 w1 wp.heap.size (fun k_ => some k_ ≠ v1.ownBlock ∧ some k_ ≠ v6.ownBlock) u l) : Dc w0 wL wp (w1.setCell ⟨h, 4, none⟩ u) g h L ps E { T with vars := l } v1 u v5 v6 := by
  have hgl := d.dr.gl
  have hgh := d.gh
  have ht := (hb.block h d.hp).trans d.tg
  exact ⟨(d.dr.stepW hb (Nat.lt_trans d.gh d.hp)).far (by omega) (by omega), d.b0, d.gh, d.hp, by have := Nat.le_trans d.size hb.size; simpa using this, blk_put ht 4 u rfl, ownT_setQ (d.own.app4R hg hat hr) ht (by decide) (by decide) 4 u⟩
theorem Dc.app5 (d : Dc w0 wL wp W g h L ps E T v1 v4 v5 v6) (hb : Below wp.heap.size W w1) (hg : W.grownBy w1 v5.ownBlock)
    (hs : Kd.S k62 62 w1 wp.heap.size (fun k_ => some k_ ≠ v1.ownBlock ∧ some k_ ≠ v4.ownBlock ∧ some k_ ≠ v6.ownBlock) u l5) : Dc w0 wL wp (w1.setCell ⟨h, 5, none⟩ u) g h L ps E { T with exts := l5 } v1 v4 u v6 := by
  have hgl := d.dr.gl
  have hgh := d.gh
  have ht := (hb.block h d.hp).trans d.tg
  exact ⟨(d.dr.stepW hb (Nat.lt_trans d.gh d.hp)).far (by omega) (by omega), d.b0, d.gh, d.hp, by have := Nat.le_trans d.size hb.size; simpa using this, blk_put ht 5 u rfl, ownT_setQ (d.own.app5 hg hs) ht (by decide) (by decide) 5 u⟩
theorem ownT_keepQ {W W' : World} {base g : Nat} {v1 v4 v5 v6 : Value} {l1 l4 : List ByteArray} {l5 : List S62} {l6 : List ByteArray} (h : OwnT W base v1 v4 v5 v6 l1 l4 l5 l6) {cells : Array Value} {t : TypeId} (hb : W.heap[g]? = some (.cells cells t (0, 0))) (h1 : ∀ q ∈ 9 :: Kd.string.E, q ≠ t) (h2 : ∀ q ∈ 62 :: k62.E, q ≠ t) (hk : KeepBut W W' g none) : OwnT W' base v1 v4 v5 v6 l1 l4 l5 l6 := by
  obtain ⟨o1, o4, o5, o6⟩ := h
  refine ⟨Kd.R_mono (Kd.R_keep (Kd.R_types o1 hb h1) hk (fun _ h => h.2)) (fun _ h => h.1), Kd.R_mono (Kd.R_keep (Kd.R_types o4 hb h1) hk (fun _ h => h.2)) (fun _ h => h.1), Kd.S_mono (Kd.S_keep (Kd.S_types o5 hb h2) hk (fun _ h => h.2)) (fun _ h => h.1), Kd.R_mono (Kd.R_keep (Kd.R_types o6 hb h1) hk (fun _ h => h.2)) (fun _ h => h.1)⟩
theorem Dc.keep {W2 : World} {ps2 : List PieceR} (d : Dc w0 wL wp W g h L ps E T v1 v4 v5 v6) (hk : KeepBut W W2 g none) (d2 : Dr wL W2 g L ps2 E) : Dc w0 wL wp W2 g h L ps2 E T v1 v4 v5 v6 := by
  obtain ⟨A, c, i, hgi, _⟩ := d.dr.rd
  exact ⟨d2, d.b0, d.gh, d.hp, Nat.le_trans d.size hk.1, (hk.2 h (blk_lt d.tg) (by have := d.gh; omega) (by simp)).trans d.tg, ownT_keepQ d.own hgi (by decide) (by decide) hk⟩
end
theorem keep11 {w : World} {g : Nat} (u0 u1 u2 u3 u4 u5 u6 u7 u8 u9 u10 : Value) : KeepBut w (((((((((((w.setCell ⟨g, 0, none⟩ u0).setCell ⟨g, 1, none⟩ u1).setCell ⟨g, 2, none⟩ u2).setCell ⟨g, 3, none⟩ u3).setCell ⟨g, 4, none⟩ u4).setCell ⟨g, 5, none⟩ u5).setCell ⟨g, 6, none⟩ u6).setCell ⟨g, 7, none⟩ u7).setCell ⟨g, 8, none⟩ u8).setCell ⟨g, 9, none⟩ u9).setCell ⟨g, 10, none⟩ u10) g none := ((((((((((((KeepBut.refl w g none).set_ 0 u0).set_ 1 u1).set_ 2 u2).set_ 3 u3).set_ 4 u4).set_ 5 u5).set_ 6 u6).set_ 7 u7).set_ 8 u8).set_ 9 u9).set_ 10 u10)
theorem doc_good {w wL wp W : World} {g h : Nat} {L : List P04} {ps : List PieceR} {E : Int} {T : TG} {v1 v4 v5 v6 : Value} {r : PRes} {tmps : Array Value} (d : Dc w wL wp W g h L ps E T v1 v4 v5 v6) (hn : wL.heap[w.heap.size]? = some (.cells z0Got 40 (0, 0))) (hr : r = .good T) (hp : tmps.getD 2 undef = .pointer (some ⟨w.heap.size, 0, none⟩)) :
    bodyPost Try.prog Try.f18 (fun e W' => GotSaid w r e W') Exit.ret { tmps := tmps, defers := [] } (((((((((((W.setCell ⟨w.heap.size, 0, none⟩ (.string T.lang)).setCell ⟨w.heap.size, 1, none⟩ v1).setCell ⟨w.heap.size, 2, none⟩ (.string T.script)).setCell ⟨w.heap.size, 3, none⟩ (.string T.region)).setCell ⟨w.heap.size, 4, none⟩ v4).setCell ⟨w.heap.size, 5, none⟩ v5).setCell ⟨w.heap.size, 6, none⟩ v6).setCell ⟨w.heap.size, 7, none⟩ (.string T.grand)).setCell ⟨w.heap.size, 8, none⟩ (.int .i64 0)).setCell ⟨w.heap.size, 9, none⟩ (.int .i64 0)).setCell ⟨w.heap.size, 10, none⟩ (.string ⟨#[]⟩)) := by
  have hN := blk_on hn d.dr.blw
  have hb : Below w.heap.size w W := d.b0.trans (below_lower d.dr.blw (Nat.le_of_lt (blk_lt hn)))
  refine bodyPost_ret (results_cell_row rfl _ _ w.heap.size 40 (#[.string T.lang, v1, .string T.script, .string T.region, v4, v5, v6, .string T.grand, .int .i64 0, .int .i64 0, .string ⟨#[]⟩]) (0, 0) _ hp (put11 hN _ _ _ _ _ _ _ _ _ _ _) Try.underlying40 rfl (by kernel_rfl)) rfl ?_
  subst hr
  have own := ownT_keepQ d.own hN (by decide) (by decide) (keep11 (g := w.heap.size) (w := W) (.string T.lang) v1 (.string T.script) (.string T.region) v4 v5 v6 (.string T.grand) (.int .i64 0) (.int .i64 0) (.string ⟨#[]⟩))
  obtain ⟨A1, c1, h1⟩ := Kd.R_slice own.1
  obtain ⟨A4, c4, h4⟩ := Kd.R_slice own.2.1
  obtain ⟨A5, c5, h5⟩ := Kd.S_slice own.2.2.1
  obtain ⟨A6, c6, h6⟩ := Kd.R_slice own.2.2.2
  subst h1 h4 h5 h6
  exact ⟨below11 hb (Nat.le_refl _) _ _ _ _ _ _ _ _ _ _ _, A1, c1, A4, c4, A5, c5, A6, c6, rfl, own.rows, own.lower (Nat.zero_le _)⟩
theorem Dc.put6 {w0 wL wp W W2 : World} {g h : Nat} {L : List P04} {ps ps2 : List PieceR} {E : Int} {T : TG} {v1 v4 v5 v6 v : Value} {l : List ByteArray} (d1 : Dc w0 wL wp W g h L ps E T v1 v4 v5 v6) (d : Dc w0 wL wp W2 g h L ps2 E T v1 v4 v5 v6) (hK : KeepBut W W2 g none) (hr : Kd.R Kd.string 9 W2 W.heap.size (fun _ => True) v l) :
    Dc w0 wL wp (W2.setCell ⟨h, 6, none⟩ v) g h L ps2 E { T with priv := l } v1 v4 v5 v := by
  obtain ⟨A, c, i, hg, _⟩ := d1.dr.rd
  obtain ⟨o1, o4, o5, o6⟩ := d1.own
  have hgl := d.dr.gl
  have hgh := d.gh
  have n : ∀ k, k < W.heap.size → some k ≠ v.ownBlock := fun k hk e => absurd (Kd.R_base hr k e.symm) (by omega)
  have own : OwnT W2 wp.heap.size v1 v4 v5 v T.ext T.vars T.exts l :=
    ⟨Kd.R_mono (Kd.R_keep (Kd.R_bound (Kd.R_types o1 hg (by decide))) hK (fun _ h => h.1.2)) (fun k h => ⟨h.1.1.1, n k h.2.2.1⟩),
      Kd.R_mono (Kd.R_keep (Kd.R_bound (Kd.R_types o4 hg (by decide))) hK (fun _ h => h.1.2)) (fun k h => ⟨h.1.1.1, n k h.2.2.1⟩),
      Kd.S_mono (Kd.S_keep (Kd.S_bound (Kd.S_types o5 hg (by decide))) hK (fun _ h => h.1.2)) (fun k h => ⟨h.1.1.1, h.1.1.2.1, n k h.2.2.1⟩),
      Kd.R_mono (Kd.R_lower (Kd.R_bound hr) d1.size) (fun k h => ⟨fun e => absurd (Kd.R_lt o1 _ e.symm) (by have := h.2.1; omega), fun e => absurd (Kd.R_lt o4 _ e.symm) (by have := h.2.1; omega)⟩)⟩
  exact ⟨d.dr.far (by omega) (by omega), d.b0, d.gh, d.hp, by have := d.size; simpa using this, blk_put d.tg 6 v rfl, ownT_setQ own d.tg (by decide) (by decide) 6 v⟩
theorem drawn_below {W W' : World} (h : Drawn0 W W') : Below W.heap.size W W' := by
  obtain ⟨n, rfl⟩ := h
  exact pw_below_drewN (Below.refl _ _) n
theorem lang06 (x : ByteArray) (hs : x.size ≤ 8) (W : World) : Calls Try.prog 45 #[.string x] W fun e W' => e = .returned (.bool (Iso.isLang (bl x))) ∧ Below W.heap.size W W' := by
  obtain ⟨k, hk⟩ := (ref_Language_ev x (by omega)).rounds
  exact (r6_Language.calls k x _ W hk).mono fun e w h => ⟨h.1, drawn_below h.2⟩
theorem ext06 (x : ByteArray) (hs : x.size ≤ 8) (W : World) : Calls Try.prog 49 #[.string x] W fun e W' => e = .returned (.bool (isExtl (bl x))) ∧ Below W.heap.size W W' := by
  obtain ⟨k, hk⟩ := (ref_Ext_ev x (by omega)).rounds
  exact (r6_Extlang.calls k x _ W hk).mono fun e w h => ⟨h.1, drawn_below h.2⟩
theorem scr06 (x : ByteArray) (hs : x.size ≤ 8) (W : World) : Calls Try.prog 46 #[.string x] W fun e W' => e = .returned (.bool (qScr x)) ∧ Below W.heap.size W W' := by
  obtain ⟨k, hk⟩ := (ref_Script_ev x (by omega)).rounds
  exact (r6_Script.calls k x _ W hk).mono fun e w h => ⟨h.1, drawn_below h.2⟩
theorem reg06 (x : ByteArray) (hs : x.size ≤ 8) (W : World) : Calls Try.prog 47 #[.string x] W fun e W' => e = .returned (.bool (qReg x)) ∧ Below W.heap.size W W' := by
  obtain ⟨k, hk⟩ := (ref_Region_ev x (by omega)).rounds
  exact (r6_Region.calls k x _ W hk).mono fun e w h => ⟨h.1, drawn_below h.2⟩
theorem var06 (x : ByteArray) (hs : x.size ≤ 8) (W : World) : Calls Try.prog 52 #[.string x] W fun e W' => e = .returned (.bool (Iso.isVar (bl x))) ∧ Below W.heap.size W W' := by
  obtain ⟨k, hk⟩ := (ref_Variant_ev x (by omega)).rounds
  exact (r6_Variant.calls k x _ W hk).mono fun e w h => ⟨h.1, drawn_below h.2⟩
theorem sing06 (x : ByteArray) (hs : x.size ≤ 8) (W : World) : Calls Try.prog 54 #[.string x] W fun e W' => e = .returned (.bool (isSi x)) ∧ Below W.heap.size W W' := by
  obtain ⟨k, hk⟩ := (ref_Singleton_ev x (by omega)).rounds
  exact (r6_Singleton.calls k x _ W hk).mono fun e w h => ⟨h.1, drawn_below h.2⟩
theorem one_q {q : ByteArray → Bool} {ps : List PieceR} (h : q ⟨#[]⟩ = false) : oneQb q ps = q (hereB ps) := by
  unfold oneQb
  cases e : (hereB ps).toList.isEmpty with
  | false => simp
  | true => rw [here_none e, h]; rfl
theorem q_cons {q : ByteArray → Bool} {ps : List PieceR} (h : q ⟨#[]⟩ = false) (hq : q (hereB ps) = true) : ∃ p t, ps = p :: t := by
  cases ps with
  | nil => rw [show hereB [] = ⟨#[]⟩ from rfl, h] at hq; cases hq
  | cons p t => exact ⟨p, t, rfl⟩
theorem cells11p {w : World} {g : Nat} {t : TypeId} {x0 x1 x2 x3 x4 x5 x6 x7 x8 x9 x10 : Value} (h : w.heap[g]? = some (.cells #[x0, x1, x2, x3, x4, x5, x6, x7, x8, x9, x10] t (0, 0))) : (w.cell? ⟨g, 0, none⟩ = some x0 ∧ w.cell? ⟨g, 1, none⟩ = some x1 ∧ w.cell? ⟨g, 2, none⟩ = some x2 ∧ w.cell? ⟨g, 3, none⟩ = some x3 ∧ w.cell? ⟨g, 4, none⟩ = some x4 ∧ w.cell? ⟨g, 5, none⟩ = some x5 ∧ w.cell? ⟨g, 6, none⟩ = some x6 ∧ w.cell? ⟨g, 7, none⟩ = some x7 ∧ w.cell? ⟨g, 8, none⟩ = some x8 ∧ w.cell? ⟨g, 9, none⟩ = some x9 ∧ w.cell? ⟨g, 10, none⟩ = some x10) ∧ (w.frozen? ⟨g, 0, none⟩ = false ∧ w.frozen? ⟨g, 1, none⟩ = false ∧ w.frozen? ⟨g, 2, none⟩ = false ∧ w.frozen? ⟨g, 3, none⟩ = false ∧ w.frozen? ⟨g, 4, none⟩ = false ∧ w.frozen? ⟨g, 5, none⟩ = false ∧ w.frozen? ⟨g, 6, none⟩ = false ∧ w.frozen? ⟨g, 7, none⟩ = false ∧ w.frozen? ⟨g, 8, none⟩ = false ∧ w.frozen? ⟨g, 9, none⟩ = false ∧ w.frozen? ⟨g, 10, none⟩ = false) :=
  ⟨⟨(blk_cell h 0).trans rfl, (blk_cell h 1).trans rfl, (blk_cell h 2).trans rfl, (blk_cell h 3).trans rfl, (blk_cell h 4).trans rfl, (blk_cell h 5).trans rfl, (blk_cell h 6).trans rfl, (blk_cell h 7).trans rfl, (blk_cell h 8).trans rfl, (blk_cell h 9).trans rfl, (blk_cell h 10).trans rfl⟩, ⟨blk_frozen h 0, blk_frozen h 1, blk_frozen h 2, blk_frozen h 3, blk_frozen h 4, blk_frozen h 5, blk_frozen h 6, blk_frozen h 7, blk_frozen h 8, blk_frozen h 9, blk_frozen h 10⟩⟩
theorem midR_eq {E : Int} {T : TG} {ps1 p2 p3 : List PieceR} {sv rv : ByteArray} (h2 : p2 = oneT qScr ps1) (h3 : p3 = oneT qReg p2) (hs : sv = oneV qScr ps1) (hr : rv = oneV qReg p2) : midR E T ps1 =
    (if (varR [] p3).2.2 then .bad 11 (atOf (varR [] p3).2.1) ⟨#[118, 97, 114, 105, 97, 110, 116]⟩
    else if (exR (varR [] p3).2.1).2.2 = 1 then .bad 11 (atOf (exR (varR [] p3).2.1).2.1) ⟨#[115, 105, 110, 103, 108, 101, 116, 111, 110]⟩
    else if (exR (varR [] p3).2.1).2.2 = 2 then .bad 10 (stopE E (exR (varR [] p3).2.1).2.1).1 (stopE E (exR (varR [] p3).2.1).2.1).2
    else tailR E { T with script := sv, region := rv, vars := (varR [] p3).1, exts := (exR (varR [] p3).2.1).1 } (exR (varR [] p3).2.1).2.1) := by
  subst h2 h3 hs hr; rfl
theorem one_yes {q : ByteArray → Bool} {ps t : List PieceR} {p : PieceR} (h : q ⟨#[]⟩ = false) (hps : ps = p :: t) (hq : q (hereB ps) = true) : oneT q ps = t ∧ oneV q ps = hereB ps := by
  have ho : oneQb q ps = true := (one_q h).trans hq
  unfold oneT oneV
  rw [if_pos ho, if_pos ho, hps]
  exact ⟨rfl, rfl⟩
theorem one_no {q : ByteArray → Bool} {ps : List PieceR} (h : q ⟨#[]⟩ = false) (hq : q (hereB ps) = false) : oneT q ps = ps ∧ oneV q ps = ⟨#[]⟩ := by
  have ho : oneQb q ps = false := (one_q h).trans hq
  unfold oneT oneV
  rw [if_neg (by rw [ho]; decide), if_neg (by rw [ho]; decide)]
  exact ⟨rfl, rfl⟩
structure DVa (w0 wL wp W : World) (g h : Nat) (L : List P04) (ps0 ps : List PieceR) (E : Int) (T : TG) (v1 u : Value) (acc : List ByteArray) : Prop where
  dc : Dc w0 wL wp W g h L ps E { T with vars := acc } v1 u (.slice none 0 0) (.slice none 0 0)
  v : varR [] ps0 = varR acc ps
  n : acc.length + ps.length ≤ ps0.length
theorem Dr.len {wL W : World} {g : Nat} {L : List P04} {ps : List PieceR} {E : Int} (d : Dr wL W g L ps E) : ps.length ≤ L.length := by
  obtain ⟨A, c, i, _, _, _, _, e⟩ := d.rd
  rw [e, List.length_map, List.length_drop]
  omega
theorem varR_dup {acc : List ByteArray} {ps t : List PieceR} {p : PieceR} (hps : ps = p :: t) (hv : Iso.isVar (bl (hereB ps)) = true) (hd : bl (hereB ps) ∈ acc.map bl) : varR acc ps = (acc, ps, true) := by
  subst hps
  rw [varR, if_pos ((one_q (q := fun s => Iso.isVar (bl s)) (by decide)).trans hv), if_pos hd]
theorem varR_new {acc : List ByteArray} {ps t : List PieceR} {p : PieceR} (hps : ps = p :: t) (hv : Iso.isVar (bl (hereB ps)) = true) (hd : ¬ bl (hereB ps) ∈ acc.map bl) : varR acc ps = varR (acc ++ [hereB ps]) t := by
  subst hps
  conv => lhs; rw [varR]
  rw [if_pos ((one_q (q := fun s => Iso.isVar (bl s)) (by decide)).trans hv), if_neg hd]
structure DLg (w0 wL wp W : World) (g h n : Nat) (L : List P04) (ps0 ps : List PieceR) (E : Int) (T : TG) (x : ByteArray) (u : Value) (acc : List ByteArray) : Prop where
  dc : Dc w0 wL wp W g h L ps E { T with ext := acc } u (.slice none 0 0) (.slice none 0 0) (.slice none 0 0)
  l : extL 3 ps0 = acc ++ extL n ps
  t : extT 3 ps0 = extT n ps
  n : acc.length + n = 3
  z : ¬ (x.size ≤ 3) → acc = [] ∧ ps = ps0
structure DEx (w0 wL wp W : World) (g h n : Nat) (L : List P04) (ps0 ps : List PieceR) (E : Int) (T : TG) (v1 v4 u : Value) (acc : List S62) : Prop where
  dc : Dc w0 wL wp W g h L ps E { T with exts := acc } v1 v4 u (.slice none 0 0)
  x : exR ps0 = extF n acc ps
  k : ps.length ≤ n
  n : acc.length + ps.length ≤ ps0.length
theorem ext_oldD {w0 wL wp W W2 : World} {g h : Nat} {L : List P04} {ps : List PieceR} {E : Int} {T : TG} {v1 v4 v5 v6 : Value} (d : Dc w0 wL wp W g h L ps E T v1 v4 v5 v6) (hk : KeepBut W W2 g none) : Kd.S k62 62 W2 wp.heap.size (fun k => (some k ≠ v1.ownBlock ∧ some k ≠ v4.ownBlock ∧ some k ≠ v6.ownBlock) ∧ ¬ (W.heap.size ≤ k)) v5 T.exts := by
  obtain ⟨A, c, i, hg, _⟩ := d.dr.rd
  exact Kd.S_mono (Kd.S_keep (Kd.S_bound (Kd.S_types d.own.2.2.1 hg (by decide))) hk (fun k hk => hk.1.2)) (fun k hk => ⟨hk.1.1, by have := hk.2.2.1; omega⟩)
theorem extF_dup {n : Nat} {acc : List S62} {ps t : List PieceR} {p : PieceR} (hps : ps = p :: t) (hv : isSi (hereB ps) = true) (hd : bl (hereB ps) ∈ keysOf acc) : extF (n + 1) acc ps = (acc, ps, 1) := by
  subst hps
  rw [extF, if_pos ((one_q (q := isSi) (by decide)).trans hv), if_pos hd]
theorem extF_new {n : Nat} {acc : List S62} {ps t : List PieceR} {p : PieceR} (hps : ps = p :: t) (hv : isSi (hereB ps) = true) (hd : ¬ bl (hereB ps) ∈ keysOf acc) : extF (n + 1) acc ps = if (rowL qTwo t).isEmpty then (acc, t, 2) else extF n (acc ++ [⟨hereB ps, rowL qTwo t⟩]) (rowT qTwo t) := by
  subst hps
  conv => lhs; rw [extF]
  rw [if_pos ((one_q (q := isSi) (by decide)).trans hv), if_neg hd]
theorem subs07_two {wL W : World} {g : Nat} {L : List P04} {ps : List PieceR} {E : Int} (h : Dr wL W g L ps E) (hgW : g < W.heap.size) (hn : ps.length ≤ 1000000) :
    Calls Try.prog 55 #[.pointer (some ⟨g, 0, none⟩), .int .i64 2] W fun e W' => ∃ v, e = .returned v ∧ Kd.R Kd.string 9 W' W.heap.size (fun _ => True) v (rowL qTwo ps) ∧ Dr wL W' g L (rowT qTwo ps) E ∧ KeepBut W W' g none :=
  subs07_calls h hgW hn 2
theorem row_any : ∀ ps : List PieceR, rowL (qMin 1) ps = rowL qAny ps ∧ rowT (qMin 1) ps = rowT qAny ps
  | [] => ⟨rfl, rfl⟩
  | p :: t => by
    have ho : oneQb (qMin 1) (p :: t) = oneQb qAny (p :: t) := by
      unfold oneQb
      cases e : (hereB (p :: t)).toList.isEmpty with
      | true => rfl
      | false =>
        have : 1 ≤ (hereB (p :: t)).size := by
          rw [← bl_len, ← bl_toList]
          cases h : (hereB (p :: t)).toList with
          | nil => rw [h] at e; cases e
          | cons a l => simp
        rw [show qMin 1 (hereB (p :: t)) = true from decide_eq_true this]
    obtain ⟨i1, i2⟩ := row_any t
    rw [rowL, rowL, rowT, rowT, ho, i1, i2]
    exact ⟨rfl, rfl⟩
theorem subs07_one {wL W : World} {g : Nat} {L : List P04} {ps : List PieceR} {E : Int} (h : Dr wL W g L ps E) (hgW : g < W.heap.size) (hn : ps.length ≤ 1000000) :
    Calls Try.prog 55 #[.pointer (some ⟨g, 0, none⟩), .int .i64 1] W fun e W' => ∃ v, e = .returned v ∧ Kd.R Kd.string 9 W' W.heap.size (fun _ => True) v (rowL qAny ps) ∧ Dr wL W' g L (rowT qAny ps) E ∧ KeepBut W W' g none := by
  rw [← (row_any ps).1, ← (row_any ps).2]
  exact subs07_calls h hgW hn 1
def dp12_T : Bool × List (List Nat × List Nat) := (true, [([], []), ([0], [0]), ([], []), ([2], [2]), ([3], [3]), ([1, 4, 3], [1, 4]), ([0, 1, 2, 3, 4, 5], []), ([6, 5, 5, 0, 1, 2, 3, 4, 5], [5, 6])])
def dp12_B : List Nat := [0, 1, 0, 4, 12, 31, 63, 127]
theorem dp12_tab : rtab .any (opsOf Try.f18 12) = dp12_T := by kernel_rfl
theorem dp12_bits : waitsOk dp12_T.2 dp12_B = true := by kernel_rfl
def dp26_T : Bool × List (List Nat × List Nat) := (true, [([], []), ([0], [0]), ([], []), ([1, 2], [1, 2]), ([3], [3]), ([], []), ([5], [5]), ([4, 6], [4, 6])])
def dp26_B : List Nat := [0, 1, 0, 7, 15, 0, 32, 127]
theorem dp26_tab : rtab .any (opsOf Try.f18 26) = dp26_T := by kernel_rfl
theorem dp26_bits : waitsOk dp26_T.2 dp26_B = true := by kernel_rfl
def dp28_T : Bool × List (List Nat × List Nat) := (true, [([], []), ([0], [0]), ([], []), ([2], [2]), ([3], [3]), ([1, 4, 3], [1, 4]), ([0, 1, 2, 3, 4, 5], []), ([6, 5, 5, 0, 1, 2, 3, 4, 5], [5, 6])])
def dp28_B : List Nat := [0, 1, 0, 4, 12, 31, 63, 127]
theorem dp28_tab : rtab .any (opsOf Try.f18 28) = dp28_T := by kernel_rfl
theorem dp28_bits : waitsOk dp28_T.2 dp28_B = true := by kernel_rfl
def dp34_T : Bool × List (List Nat × List Nat) := (true, [([], []), ([0], [0]), ([], []), ([1, 2], [1, 2]), ([3], [3]), ([4], [4]), ([], []), ([6], [6]), ([5, 7], [5, 7])])
def dp34_B : List Nat := [0, 1, 0, 7, 15, 31, 0, 64, 255]
theorem dp34_tab : rtab .any (opsOf Try.f18 34) = dp34_T := by kernel_rfl
theorem dp34_bits : waitsOk dp34_T.2 dp34_B = true := by kernel_rfl
def cR : Code → Code
  | .seq _ b => b
  | c => c
def cL : Code → Code
  | .seq a _ => a
  | c => c
def cT : Code → Code
  | .cond _ a _ => a
  | c => c
noncomputable def docBody : Code := (Try.f18.body).getD .skip
noncomputable def docRest : Code := cR (cR (cR (cR (cR docBody))))
noncomputable def docThen : Code := cT (cR (cL (cR (cR (cR (cR docBody))))))
noncomputable def docMid : Code := cR (cR (cR (cR (cR (cR (cR (cR (cR docThen))))))))
abbrev docQ (w : World) (r : PRes) : Exit → Act → World → Prop := bodyPost Try.prog Try.f18 (fun e W' => GotSaid w r e W')
abbrev docAct (s : ByteArray) (w : World) (g h : Nat) (u5 u6 u7 u8 u9 u10 u11 u12 u13 u14 u15 u16 u17 u18 u19 u20 u21 u22 u23 u24 u25 u26 u27 u28 u29 u30 u31 u32 u33 u34 u35 u36 u37 u38 u39 u40 u41 u42 u43 u44 u45 u46 u47 u48 u49 u50 u51 u52 u53 u54 u55 u56 u57 u58 u59 u60 u61 u62 u63 u64 u65 u66 u67 u68 u69 u70 u71 u72 u73 u74 u75 u76 u77 u78 u79 u80 u81 u82 u83 u84 u85 u86 u87 u88 u89 u90 u91 u92 u93 u94 u95 u96 u97 u98 u99 u100 u101 u102 u103 u104 u105 u106 u107 u108 u109 u110 u111 u112 u113 u114 u115 u116 u117 u118 u119 u120 u121 u122 u123 u124 u125 u126 u127 u128 u129 u130 u131 u132 u133 u134 u135 u136 u137 u138 u139 u140 u141 u142 u143 u144 u145 u146 u147 u148 u149 u150 u151 u152 u153 u154 u155 u156 u157 u158 u159 u160 u161 u162 u163 u164 u165 u166 u167 u168 u169 u170 u171 u172 u173 u174 u175 u176 u177 u178 u179 u180 u181 u182 u183 u184 u185 u186 u187 u188 u189 u190 u191 u192 u193 u194 u195 u196 u197 u198 u199 u200 u201 u202 u203 u204 u205 u206 u207 u208 u209 u210 u211 u212 u213 u214 : Value) : Act := { tmps := #[.string s, undef, .pointer (some ⟨w.heap.size, 0, none⟩), .pointer (some ⟨g, 0, none⟩), .pointer (some ⟨h, 0, none⟩), u5, u6, u7, u8, u9, u10, u11, u12, u13, u14, u15, u16, u17, u18, u19, u20, u21, u22, u23, u24, u25, u26, u27, u28, u29, u30, u31, u32, u33, u34, u35, u36, u37, u38, u39, u40, u41, u42, u43, u44, u45, u46, u47, u48, u49, u50, u51, u52, u53, u54, u55, u56, u57, u58, u59, u60, u61, u62, u63, u64, u65, u66, u67, u68, u69, u70, u71, u72, u73, u74, u75, u76, u77, u78, u79, u80, u81, u82, u83, u84, u85, u86, u87, u88, u89, u90, u91, u92, u93, u94, u95, u96, u97, u98, u99, u100, u101, u102, u103, u104, u105, u106, u107, u108, u109, u110, u111, u112, u113, u114, u115, u116, u117, u118, u119, u120, u121, u122, u123, u124, u125, u126, u127, u128, u129, u130, u131, u132, u133, u134, u135, u136, u137, u138, u139, u140, u141, u142, u143, u144, u145, u146, u147, u148, u149, u150, u151, u152, u153, u154, u155, u156, u157, u158, u159, u160, u161, u162, u163, u164, u165, u166, u167, u168, u169, u170, u171, u172, u173, u174, u175, u176, u177, u178, u179, u180, u181, u182, u183, u184, u185, u186, u187, u188, u189, u190, u191, u192, u193, u194, u195, u196, u197, u198, u199, u200, u201, u202, u203, u204, u205, u206, u207, u208, u209, u210, u211, u212, u213, u214], defers := [] }
set_option maxRecDepth 100000 in
set_option maxHeartbeats 16000000 in
theorem doc_tail (s : ByteArray) (w wl vp : World) (g h : Nat) (L : List P04) (hfew : L.length ≤ 1000000) (hn3 : wl.heap[w.heap.size]? = some (.cells z0Got 40 (0, 0))) (r : PRes) (wc : World) (ps : List PieceR) (T : TG) (v1 v4 v5 : Value) (D1 : Dc w wl vp wc g h L ps s.size T v1 v4 v5 (.slice none 0 0)) (hpv : T.priv = []) (htl : tailR s.size T ps = r) (u5 u6 u7 u8 u9 u10 u11 u12 u13 u14 u15 u16 u17 u18 u19 u20 u21 u22 u23 u24 u25 u26 u27 u28 u29 u30 u31 u32 u33 u34 u35 u36 u37 u38 u39 u40 u41 u42 u43 u44 u45 u46 u47 u48 u49 u50 u51 u52 u53 u54 u55 u56 u57 u58 u59 u60 u61 u62 u63 u64 u65 u66 u67 u68 u69 u70 u71 u72 u73 u74 u75 u76 u77 u78 u79 u80 u81 u82 u83 u84 u85 u86 u87 u88 u89 u90 u91 u92 u93 u94 u95 u96 u97 u98 u99 u100 u101 u102 u103 u104 u105 u106 u107 u108 u109 u110 u111 u112 u113 u114 u115 u116 u117 u118 u119 u120 u121 u122 u123 u124 u125 u126 u127 u128 u129 u130 u131 u132 u133 u134 u135 u136 u137 u138 u139 u140 u141 u142 u143 u144 u145 u146 u147 u148 u149 u150 u151 u152 u153 u154 u155 u156 u157 u158 u159 u160 u161 u162 u163 u164 u165 u166 u167 u168 u169 u170 u171 u172 u173 u174 u175 u176 u177 u178 u179 u180 u181 u182 u183 u184 u185 u186 u187 u188 u189 u190 u191 u192 u193 u194 u195 u196 u197 u198 u199 u200 u201 u202 u203 u204 u205 u206 u207 u208 u209 u210 u211 u212 u213 u214 : Value) :
    Code.wp Try.prog docRest (docQ w r) (docAct s w g h u5 u6 u7 u8 u9 u10 u11 u12 u13 u14 u15 u16 u17 u18 u19 u20 u21 u22 u23 u24 u25 u26 u27 u28 u29 u30 u31 u32 u33 u34 u35 u36 u37 u38 u39 u40 u41 u42 u43 u44 u45 u46 u47 u48 u49 u50 u51 u52 u53 u54 u55 u56 u57 u58 u59 u60 u61 u62 u63 u64 u65 u66 u67 u68 u69 u70 u71 u72 u73 u74 u75 u76 u77 u78 u79 u80 u81 u82 u83 u84 u85 u86 u87 u88 u89 u90 u91 u92 u93 u94 u95 u96 u97 u98 u99 u100 u101 u102 u103 u104 u105 u106 u107 u108 u109 u110 u111 u112 u113 u114 u115 u116 u117 u118 u119 u120 u121 u122 u123 u124 u125 u126 u127 u128 u129 u130 u131 u132 u133 u134 u135 u136 u137 u138 u139 u140 u141 u142 u143 u144 u145 u146 u147 u148 u149 u150 u151 u152 u153 u154 u155 u156 u157 u158 u159 u160 u161 u162 u163 u164 u165 u166 u167 u168 u169 u170 u171 u172 u173 u174 u175 u176 u177 u178 u179 u180 u181 u182 u183 u184 u185 u186 u187 u188 u189 u190 u191 u192 u193 u194 u195 u196 u197 u198 u199 u200 u201 u202 u203 u204 u205 u206 u207 u208 u209 u210 u211 u212 u213 u214) wc := by
  have HF := Lib.hid hfew
  have HN3 := Lib.hid hn3
  have HPV := Lib.hid hpv
  have HTL := Lib.hid htl
  replace D1 := Lib.hid D1
  clear hfew hn3 hpv htl
  have e : docRest = docRest := rfl
  conv at e => rhs; unfold docRest docBody Try.f18; dsimp only [cR, Option.getD]
  rw [e]
  clear e
  unfold docAct docQ
  dsimp only
  obtain ⟨y, hy⟩ : ∃ y, y = hereB ps := ⟨_, rfl⟩
  have SY := Lib.hid hy
  clear hy
  go_upto_if 184 with (go_at_call 50; refine (here07_calls D1.out.dr).mono ?_; rw [← SY.out]; rintro e w2 ⟨rfl, hb⟩; dsimp only; have D2 := Lib.hid (D1.out.step hb); clear hb D1)
  go_cut [184] (fun _ wc => ∃ (ps : List PieceR) (T : TG) (v6 : Value), Hid (Dc w wl vp wc g h L ps s.size T v1 v4 v5 v6) ∧ Hid (finR s.size T ps = r))
  case first =>
    by_cases cx : bl y = [120]
    · have hxe : (y.toList == ([120] : List UInt8)) = true := by rw [x_eq cx]; decide +kernel
      rw [hxe]
      obtain ⟨p', t', hps'⟩ := x_one (q := qAny) (ps := ps) (by rw [← SY.out]; exact cx)
      have HP' := Lib.hid hps'
      have h0 := HTL.out
      rw [tailR, ← SY.out, if_pos cx, hps', show (p' :: t').drop 1 = t' from rfl] at h0
      have HT := Lib.hid h0
      clear h0 cx hxe hps'
      go_upto_region 43 with (fail)
      obtain ⟨A2, c2, i2, gi2, -, -, li2, -⟩ := D2.out.dr.rd
      have GI2 := Lib.hid gi2
      have z2 : World.cell? w2 ⟨g, 1, none⟩ = some (.int .i64 (i2 : Int)) := (blk_cell gi2 1).trans rfl
      have f2 := blk_frozen gi2 1
      have y2 : wrap64 ((i2 : Int) + 1) = (i2 : Int) + 1 := by have := D2.out.dr.few; unfold wrap64; omega
      clear gi2 li2
      go_upto_region 44 with (fail)
      obtain ⟨V3, hV3⟩ : ∃ V, V = w2.setCell ⟨g, 1, none⟩ (.int .i64 ((i2 : Int) + 1)) := ⟨_, rfl⟩
      rw [← hV3]
      have D3 := Lib.hid (show Dc w wl vp V3 g h L t' s.size T v1 v4 v5 (.slice none 0 0) from by rw [hV3]; exact dc_next D2.out HP'.out GI2.out)
      clear hV3 D2 z2 f2 y2 GI2
      have HG3 := Lib.hid (show g < V3.heap.size from by have := D3.out.gh; have := D3.out.hp; have := D3.out.size; omega)
      obtain ⟨sb, hsb⟩ : ∃ l, l = rowL qAny t' := ⟨_, rfl⟩
      obtain ⟨st, hst⟩ : ∃ l, l = rowT qAny t' := ⟨_, rfl⟩
      have HSB := Lib.hid hsb
      have HST := Lib.hid hst
      clear hsb hst
      go_upto_region 45 with (go_at_call 55; refine (subs07_one D3.out.dr HG3.out (by have := D3.out.dr.len; have := HF.out; omega)).mono ?_; rw [← HSB.out, ← HST.out]; rintro e w8 ⟨v8, rfl, hr, hd, hk⟩; dsimp only; obtain ⟨B, db, hv8⟩ := Kd.R_slice hr; subst hv8; have HR8 := Lib.hid hr; have HK8 := Lib.hid hk; have D8 := Lib.hid (D3.out.keep hk hd); have k8 : w8.cell? ⟨h, 6, none⟩ = some (.slice none 0 0) := (blk_cell D8.out.tg 6).trans rfl; have f8 := blk_frozen D8.out.tg 6; clear hr hd hk)
      obtain ⟨V9, hV9⟩ : ∃ V, V = w8.setCell ⟨h, 6, none⟩ (.slice B sb.length db) := ⟨_, rfl⟩
      rw [← hV9]
      have D9 := Lib.hid (show Dc w wl vp V9 g h L st s.size { T with priv := sb } v1 v4 v5 (.slice B sb.length db) from by rw [hV9]; exact D3.out.put6 D8.out HK8.out HR8.out)
      clear hV9 D3 D8 k8 f8 HR8 HK8
      have e6 : V9.cell? ⟨h, 6, none⟩ = some (.slice B sb.length db) := (blk_cell D9.out.tg 6).trans rfl
      by_cases hs : sb = []
      · have h0 := HT.out
        have rt := rowT_none (q := qAny) (t := t') (by rw [← HSB.out]; exact hs)
        rw [← HSB.out, if_pos (by rw [hs]; rfl)] at h0
        have HBAD := Lib.hid (show r = .bad 10 (stopE s.size st).1 (stopE s.size st).2 from by rw [← h0, HST.out, rt])
        have hl0 : ((sb.length : Int) == 0) = true := by rw [hs]; rfl
        clear h0 rt hs
        go_upto_if 198 with (fail)
        clear e6 hl0
        go_wp2_with (go_at_call 51; refine (wrong07_calls D9.out.dr).mono ?_; rintro e w10 ⟨rfl, hb⟩; dsimp only; have D10 := Lib.hid (D9.out.step hb); obtain ⟨⟨k0, k1, k2, k3, k4, k5, k6, k7, k8, k9, k10⟩, ⟨f0, f1, f2, f3, f4, f5, f6, f7, f8, f9, f10⟩⟩ := cells11p (blk_on HN3.out D10.out.dr.blw); clear hb D9)
        exact doc_bad D10.out HN3.out 10 _ _ HBAD.out rfl
      · have hl0 : ((sb.length : Int) == 0) = false := beq_eq_false_iff_ne.2 (fun e => hs (List.length_eq_zero_iff.1 (by omega)))
        have h0 := HT.out
        rw [← HSB.out, ← HST.out, if_neg (by simpa using hs)] at h0
        have HT2 := Lib.hid h0
        clear hs h0
        go_upto_if 198 with (fail)
        clear e6 hl0
        go_wp2
        go_meet
        case rel => exact ⟨st, _, _, D9, HT2⟩
    · have nx : (y.toList == ([120] : List UInt8)) = false := (x_ne cx).2.1
      rw [nx]
      have h0 := HTL.out
      rw [tailR, ← SY.out, if_neg cx] at h0
      have HT := Lib.hid h0
      clear h0 cx nx
      go_wp2
      go_meet
      case rel => exact ⟨ps, T, _, D2, HT⟩
  case rest =>
    obtain ⟨ps, T, v6, D1, HFN⟩ := hcut
    obtain ⟨A1, c1, hv1⟩ := Kd.R_slice D1.out.own.1
    obtain ⟨A4, c4, hv4⟩ := Kd.R_slice D1.out.own.2.1
    obtain ⟨A5, c5, hv5⟩ := Kd.S_slice D1.out.own.2.2.1
    obtain ⟨A6, c6, hv6⟩ := Kd.R_slice D1.out.own.2.2.2
    subst hv1 hv4 hv5 hv6
    clear D2 SY HTL HPV
    obtain ⟨A9, c9, i9, gi9, -, -, li9, hp9⟩ := D1.out.dr.rd
    have z0 : wc.cell? ⟨g, 0, none⟩ = some (.slice A9 L.length c9) := (blk_cell gi9 0).trans rfl
    have z1 : wc.cell? ⟨g, 1, none⟩ = some (.int .i64 (i9 : Int)) := (blk_cell gi9 1).trans rfl
    clear gi9
    by_cases hps : ps = []
    · have hi : ¬ (i9 < L.length) := fun hlt => by
        have := congrArg List.length (hp9.symm.trans hps)
        rw [List.length_map, List.length_drop, List.length_nil] at this
        omega
      have q1 : decide ((i9 : Int) < (L.length : Int)) = false := decide_eq_false (by omega)
      have q3 : decide (i9 < L.length) = false := decide_eq_false hi
      have h0 := HFN.out
      rw [hps, finR, if_pos (show ([] : List PieceR).isEmpty = true from rfl)] at h0
      have HGOOD := Lib.hid h0.symm
      rw [hps] at D1
      clear hps hp9 li9 hi h0
      go_upto_region 47 with (fail)
      go_quiet (fail)
      clear z0 z1 q1 q3
      obtain ⟨⟨k0, k1, k2, k3, k4, k5, k6, k7, k8, k9, k10⟩, ⟨f0, f1, f2, f3, f4, f5, f6, f7, f8, f9, f10⟩⟩ := cells11p (blk_on HN3.out D1.out.dr.blw)
      obtain ⟨t0, t1, t2, t3, t4, t5, t6, t7⟩ := cells8p D1.out.tg
      have D2 := Lib.hid (D1.out.step (pw_below_drewN (Below.refl _ _) nq))
      clear D1
      go_wp2
      exact doc_good D2.out HN3.out HGOOD.out rfl
    · have hi : i9 < L.length := by
        have := congrArg List.length hp9
        rw [List.length_map, List.length_drop] at this
        have := List.length_pos_iff.2 hps
        omega
      have q1 : decide ((i9 : Int) < (L.length : Int)) = true := decide_eq_true (by omega)
      have q3 : decide (i9 < L.length) = true := decide_eq_true hi
      have h0 := HFN.out
      rw [finR, if_neg (by simpa using hps)] at h0
      have HBAD := Lib.hid h0.symm
      clear hps hp9 li9 hi h0
      go_upto_region 47 with (fail)
      go_quiet (fail)
      clear z0 z1 q1 q3
      have D2 := Lib.hid (D1.out.step (pw_below_drewN (Below.refl _ _) nq))
      clear D1
      go_wp2_with (go_at_call 51; refine (wrong07_calls D2.out.dr).mono ?_; rintro e w3 ⟨rfl, hb⟩; dsimp only; have D3 := Lib.hid (D2.out.step hb); obtain ⟨⟨k0, k1, k2, k3, k4, k5, k6, k7, k8, k9, k10⟩, ⟨f0, f1, f2, f3, f4, f5, f6, f7, f8, f9, f10⟩⟩ := cells11p (blk_on HN3.out D3.out.dr.blw); clear hb D2)
      exact doc_bad D3.out HN3.out 10 _ _ HBAD.out rfl
end Go.Proofs.Ytojglflamecnkaa.P
