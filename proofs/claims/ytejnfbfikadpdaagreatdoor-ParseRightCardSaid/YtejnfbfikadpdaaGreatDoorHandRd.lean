/- The reader of package parse, in the memory; here, take, stop, twice walked. -/
import Derived.Test.YtejnfbfikadpdaaGreatDoorHandErr
import Derived.Test.YtejnfbfikadpdaaGreatDoorEvMade
import Derived.Test.YtejnfbfikadpdaaGreatDoorHandSpoilt
import Derived.Test.YtejnfbfikadpdaaGreatDoorEvC
import Derived.WalkLawsBesides
import Derived.Lib.Hide
import Derived.Test.YtejnfbfikadpdaaGreatDoorPx5
namespace Go.Proofs.YtejnfbfikadpdaaGreatDoor.P
open Go.RowKit Go.Shelf Go.Proofs.YtejnfbfikadpdaaGreatDoorW.PrintWords Go.Proofs.YtejnfbfikadpdaaGreatDoor.Iso
set_option linter.unusedVariables false
set_option linter.unusedSimpArgs false
abbrev PieceR := S75
abbrev rdCells (A : Option Addr) (n c : Nat) (E : Int) (T : TG) (v1 v4 v5 v6 : Value) : Array Value :=
  #[.slice A n c, .int .i64 E, .string T.lang, v1, .string T.script, .string T.region, v4, v5, v6, .string T.grand]
structure Rd (w0 wp W : World) (g : Nat) (ps : List PieceR) (E : Int) (T : TG) (v1 v4 v5 v6 : Value) : Prop where
  lo : w0.heap.size ≤ g
  hi : g < wp.heap.size
  size : wp.heap.size ≤ W.heap.size
  below : Below w0.heap.size w0 W
  cells : ∃ A c, W.heap[g]? = some (.cells (rdCells A ps.length c E T v1 v4 v5 v6) 70 (0, 0)) ∧ ps.length ≤ c ∧
    (∀ W', KeepBut wp W' g none → Kd.C k75 W' A ps.length ps)
  own : OwnT W wp.heap.size v1 v4 v5 v6 T.ext T.vars T.exts T.priv
  keep : KeepBut wp W g none
def hereB : List PieceR → ByteArray
  | [] => ⟨#[]⟩
  | p :: _ => if p.f1.size ≤ 8 ∧ alnum (bl p.f1) = true then p.f1 else ⟨#[]⟩
theorem alnum_calls (s : ByteArray) (hn : s.size ≤ 140737488355328) (w : World) : Calls Tryz.prog 114 #[.string s] w fun e w' => e = .returned (.bool (alnum (bl s))) ∧ Drawn0 w w' := by
  obtain ⟨k, hk⟩ := (ascii_Alnum_ev s hn).rounds
  exact ascii_Alnum.calls k s _ w hk
theorem OwnT.drewN {W : World} {base : Nat} {v1 v4 v5 v6 : Value} {l1 l4 : List ByteArray} {l5 : List S47} {l6 : List ByteArray} (h : OwnT W base v1 v4 v5 v6 l1 l4 l5 l6) (n : Nat) : OwnT (W.drewN n) base v1 v4 v5 v6 l1 l4 l5 l6 :=
  h.below (pw_below_drewN (Below.refl _ _) n)
theorem Rd.step {w0 wp W W' : World} {g : Nat} {ps : List PieceR} {E : Int} {T : TG} {v1 v4 v5 v6 : Value} (h : Rd w0 wp W g ps E T v1 v4 v5 v6) (hb : Below W.heap.size W W') : Rd w0 wp W' g ps E T v1 v4 v5 v6 := by
  obtain ⟨A, c, hg, hc, hp⟩ := h.cells
  have hs := h.size
  have hbs := hb.size
  exact ⟨h.lo, h.hi, by omega, below_step h.below hb, ⟨A, c, blk_on hg hb, hc, hp⟩, h.own.below hb, ⟨by have := h.keep.1; omega, fun k hk hne hr => (hb.block k (by omega)).trans (h.keep.2 k hk hne hr)⟩⟩
theorem Rd.drewN {w0 wp W : World} {g : Nat} {ps : List PieceR} {E : Int} {T : TG} {v1 v4 v5 v6 : Value} (h : Rd w0 wp W g ps E T v1 v4 v5 v6) (n : Nat) : Rd w0 wp (W.drewN n) g ps E T v1 v4 v5 v6 := h.step (pw_below_drewN (Below.refl _ _) n)
theorem ownT_setR {W : World} {base : Nat} {v1 v4 v5 v6 : Value} {l1 l4 : List ByteArray} {l5 : List S47} {l6 : List ByteArray} (h : OwnT W base v1 v4 v5 v6 l1 l4 l5 l6) {g : Nat} {cells : Array Value} (hb : W.heap[g]? = some (.cells cells 70 (0, 0))) (j : Nat) (u : Value) : OwnT (W.setCell ⟨g, j, none⟩ u) base v1 v4 v5 v6 l1 l4 l5 l6 :=
  ⟨Kd.R_set h.1 hb (by decide) j u, Kd.R_set h.2.1 hb (by decide) j u, Kd.S_set h.2.2.1 hb (by decide) j u, Kd.R_set h.2.2.2 hb (by decide) j u⟩
theorem ownT_keep {W W' : World} {base g : Nat} {v1 v4 v5 v6 : Value} {l1 l4 : List ByteArray} {l5 : List S47} {l6 : List ByteArray} (h : OwnT W base v1 v4 v5 v6 l1 l4 l5 l6) {cells : Array Value} (hb : W.heap[g]? = some (.cells cells 70 (0, 0))) (hk : KeepBut W W' g none) : OwnT W' base v1 v4 v5 v6 l1 l4 l5 l6 := by
  obtain ⟨h1, h4, h5, h6⟩ := h
  refine ⟨Kd.R_mono (Kd.R_keep (Kd.R_types h1 hb (by decide)) hk (fun _ h => h.2)) (fun _ h => h.1), Kd.R_mono (Kd.R_keep (Kd.R_types h4 hb (by decide)) hk (fun _ h => h.2)) (fun _ h => h.1), Kd.S_mono (Kd.S_keep (Kd.S_types h5 hb (by decide)) hk (fun _ h => h.2)) (fun _ h => h.1), Kd.R_mono (Kd.R_keep (Kd.R_types h6 hb (by decide)) hk (fun _ h => h.2)) (fun _ h => h.1)⟩
theorem Rd.blk {w0 wp W : World} {g : Nat} {ps : List PieceR} {E : Int} {T : TG} {v1 v4 v5 v6 : Value} (h : Rd w0 wp W g ps E T v1 v4 v5 v6) : ∃ cells, W.heap[g]? = some (.cells cells 70 (0, 0)) := by
  obtain ⟨A, c, hg, _⟩ := h.cells
  exact ⟨_, hg⟩
theorem Rd.again {w0 wp W W' : World} {g : Nat} {ps ps' : List PieceR} {E : Int} {T : TG} {v1 v4 v5 v6 : Value} (h : Rd w0 wp W g ps E T v1 v4 v5 v6) (hk : KeepBut W W' g none) (hb : Below w0.heap.size w0 W')
    (hc : ∃ A c, W'.heap[g]? = some (.cells (rdCells A ps'.length c E T v1 v4 v5 v6) 70 (0, 0)) ∧ ps'.length ≤ c ∧ (∀ W', KeepBut wp W' g none → Kd.C k75 W' A ps'.length ps')) : Rd w0 wp W' g ps' E T v1 v4 v5 v6 := by
  obtain ⟨cells, hg⟩ := h.blk
  exact ⟨h.lo, h.hi, Nat.le_trans h.size hk.1, hb, hc, ownT_keep h.own hg hk, h.keep.trans hk (.inl rfl)⟩
theorem Rd.first {w0 wp W : World} {g : Nat} {ps : List PieceR} {E : Int} {T : TG} {v1 v4 v5 v6 : Value} (h : Rd w0 wp W g ps E T v1 v4 v5 v6) {p : PieceR} {t : List PieceR} (hps : ps = p :: t) : ∃ ad c, W.cell? ⟨g, 0, none⟩ = some (.slice (some ad) ps.length c) ∧ ps.length ≤ c ∧ W.cell? ad = some (.int .i64 p.f0) ∧ W.cell? ⟨ad.block, ad.off + 1, none⟩ = some (.string p.f1) := by
  obtain ⟨A, c, hg, hc, hp⟩ := h.cells
  obtain ⟨ad, e, x0, x1⟩ := at_T75 (hp W h.keep) 0 (by omega) (by rw [hps]; simp)
  subst e
  have hr : rd_T75 ps 0 = p := by rw [hps]; rfl
  have ha : ad.add (Int.toNat 0 * 2) = ad := rfl
  rw [hr, ha] at x0 x1
  exact ⟨ad, c, (blk_cell hg 0).trans rfl, hc, x0, x1⟩
theorem hereB_cons (p : PieceR) (t : List PieceR) : hereB (p :: t) = if p.f1.size ≤ 8 ∧ alnum (bl p.f1) = true then p.f1 else ⟨#[]⟩ := rfl
set_option maxRecDepth 100000 in
set_option maxHeartbeats 1000000 in
theorem here_calls {w0 wp W : World} {g : Nat} {ps : List PieceR} {E : Int} {T : TG} {v1 v4 v5 v6 : Value} (h : Rd w0 wp W g ps E T v1 v4 v5 v6) :
    Calls Tryz.prog 76 #[.pointer (some ⟨g, 0, none⟩)] W fun e W' => e = .returned (.string (hereB ps)) ∧ Drawn0 W W' := by
  cases hps : ps with
  | nil =>
    obtain ⟨A, c, hg, hc, hp⟩ := h.cells
    have z0 : W.cell? ⟨g, 0, none⟩ = some (.slice A 0 c) := by rw [hps] at hg; exact (blk_cell hg 0).trans rfl
    clear hp hg h
    go_enter Tryz.func76, Tryz.ntmps76
    go_wp2
    go_ret
    exact ⟨rfl, Drawn0.refl _⟩
  | cons p t =>
    obtain ⟨ad, c, z0, hc, x0, x1⟩ := h.first hps
    rw [← hps]
    have hl : 0 < ps.length := by rw [hps]; simp
    have hH : hereB ps = if p.f1.size ≤ 8 ∧ alnum (bl p.f1) = true then p.f1 else ⟨#[]⟩ := by rw [hps]; rfl
    obtain ⟨n, hn⟩ : ∃ n, n = ps.length := ⟨_, rfl⟩
    obtain ⟨s, hs⟩ : ∃ s, s = p.f1 := ⟨_, rfl⟩
    rw [← hn] at z0 hl hc
    rw [← hs] at x1 hH
    have q0 : ((n : Int) == 0) = false := by rw [beq_eq_false_iff_ne]; omega
    have q1 : (0 : Int) < (n : Int) := by omega
    have q2 : decide ((0 : Int) < (n : Int)) = true := decide_eq_true q1
    clear h hn hs hps
    by_cases h8 : s.size ≤ 8
    · have q3 : decide ((8 : Int) < (s.size : Int)) = false := decide_eq_false (by omega)
      have q4 : decide (8 < s.size) = false := decide_eq_false (by omega)
      have AC := fun (V : World) => alnum_calls s (by omega) V
      by_cases ha : alnum (bl s) = true
      · rw [hH, if_pos ⟨h8, ha⟩]
        rw [ha] at AC
        clear hc hH ha
        go_enter Tryz.func76, Tryz.ntmps76
        go_wp2_with (go_at_call 114; refine (AC _).mono ?_; rintro e w2 ⟨rfl, ⟨nd, rfl⟩⟩)
        go_ret
        exact ⟨rfl, _, rfl⟩
      · have ha' : alnum (bl s) = false := by simpa using ha
        rw [hH, if_neg (fun h => ha h.2)]
        rw [ha'] at AC
        clear hc hH ha ha'
        go_enter Tryz.func76, Tryz.ntmps76
        go_wp2_with (go_at_call 114; refine (AC _).mono ?_; rintro e w2 ⟨rfl, ⟨nd, rfl⟩⟩)
        go_ret
        exact ⟨rfl, _, rfl⟩
    · have q3 : decide ((8 : Int) < (s.size : Int)) = true := decide_eq_true (by omega)
      have q4 : decide (8 < s.size) = true := decide_eq_true (by omega)
      rw [hH, if_neg (fun h => h8 h.1)]
      clear hc hH
      go_enter Tryz.func76, Tryz.ntmps76
      go_wp2
      go_ret
      exact ⟨rfl, Drawn0.refl _⟩
end Go.Proofs.YtejnfbfikadpdaaGreatDoor.P
