/- take, stop, twice of parse's reader, walked. -/
import Derived.Test.YtejnfbfikadpdaaGreatDoorHandRd
namespace Go.Proofs.YtejnfbfikadpdaaGreatDoor.P
open Go.RowKit Go.Shelf Go.Proofs.YtejnfbfikadpdaaGreatDoorW.PrintWords Go.Proofs.YtejnfbfikadpdaaGreatDoor.Iso
set_option linter.unusedVariables false
set_option linter.unusedSimpArgs false
section
variable {w0 wp W : World} {g : Nat} {ps : List PieceR} {E : Int} {T : TG} {v1 v4 v5 v6 : Value}
theorem Rd.put0 (h : Rd w0 wp W g ps E T v1 v4 v5 v6) {p : PieceR} {t : List PieceR} (hps : ps = p :: t) {ad : Addr} {c : Nat} (hz : W.cell? ⟨g, 0, none⟩ = some (.slice (some ad) ps.length c)) (hc : ps.length ≤ c) :
    Rd w0 wp (W.setCell ⟨g, 0, none⟩ (.slice (if c = 1 then some ad else some (ad.add 2)) (ps.length - 1) (c - 1))) g t E T v1 v4 v5 v6 := by
  obtain ⟨A, c', hg, hc', hp⟩ := h.cells
  have e : Value.slice A ps.length c' = .slice (some ad) ps.length c := Option.some.inj ((((blk_cell hg 0).trans rfl).symm.trans hz))
  injection e with e1 _ e3
  subst e1 e3
  have hl : t.length = ps.length - 1 := by rw [hps]; simp
  refine ⟨h.lo, h.hi, by have := h.size; simpa using this, h.below.setCell (p := ⟨g, 0, none⟩) h.lo _, ⟨if c' = 1 then some ad else some (ad.add 2), c' - 1, ?_, by omega, fun W' hk => ?_⟩, ownT_setR h.own hg 0 _, h.keep.set_ 0 _⟩
  · rw [hl]
    exact blk_put hg 0 _ rfl
  · have hC := hp W' hk
    have := Kd.C_drop (m := 1) hC (by rw [hps]; simp) hc
    have ed : ps.drop 1 = t := by rw [hps]; rfl
    rw [ed] at this
    have ea : (if c' = 1 then some ad else (some ad).map (·.add (1 * k75.sz))) = if c' = 1 then some ad else some (ad.add 2) := rfl
    rw [ea] at this
    exact this
end
set_option maxRecDepth 100000 in
set_option maxHeartbeats 1000000 in
theorem take_calls {w0 wp W : World} {g : Nat} {ps : List PieceR} {E : Int} {T : TG} {v1 v4 v5 v6 : Value} (h : Rd w0 wp W g ps E T v1 v4 v5 v6) {p : PieceR} {t : List PieceR} (hps : ps = p :: t) :
    Calls Tryz.prog 83 #[.pointer (some ⟨g, 0, none⟩)] W fun e W' => e = .returned (.string (hereB ps)) ∧ Rd w0 wp W' g t E T v1 v4 v5 v6 ∧ KeepBut W W' g none := by
  obtain ⟨ad, c, z0, hc, x0, x1⟩ := h.first hps
  have hl : 0 < ps.length := by rw [hps]; simp
  have HH := Lib.hid h
  have HZ := Lib.hid z0
  have HC := Lib.hid hc
  have HP := Lib.hid hps
  have sf : W.frozen? ⟨g, 0, none⟩ = false := by
    obtain ⟨A, c, hg, _⟩ := h.cells
    exact blk_frozen hg 0
  have q0 : (1 : Int) ≤ (ps.length : Int) := by omega
  have q1 : decide ((1 : Int) ≤ (ps.length : Int)) = true := decide_eq_true q0
  have q2 : ¬ ((ps.length : Int) < 1) := by omega
  have q3 : decide ((ps.length : Int) < 1) = false := decide_eq_false q2
  have q4 : (1 : Int) ≤ (c : Int) := by omega
  have q5 : decide ((1 : Int) ≤ (c : Int)) = true := decide_eq_true q4
  clear h hps x0 x1 hc hl
  go_enter Tryz.func83, Tryz.ntmps83
  go_wp2_with (go_at_call 76; refine (here_calls HH.out).mono ?_; rintro e w2 ⟨rfl, ⟨nd, rfl⟩⟩)
  · have hc1 := h
    go_ret
    have hp := (HH.out.drewN nd).put0 HP.out HZ.out HC.out
    rw [if_pos hc1, hc1] at hp
    exact ⟨rfl, hp, (keep_drewN (KeepBut.refl W g none) nd).set_ 0 _⟩
  · have hc1 := h
    go_ret
    have hp := (HH.out.drewN nd).put0 HP.out HZ.out HC.out
    rw [if_neg hc1] at hp
    exact ⟨rfl, hp, (keep_drewN (KeepBut.refl W g none) nd).set_ 0 _⟩
def BadK (w0 wp : World) (g : Nat) (W' : World) : Prop := Below w0.heap.size w0 W' ∧ KeepBut wp W' g none
theorem Rd.badK {w0 wp W W' : World} {g : Nat} {ps : List PieceR} {E : Int} {T : TG} {v1 v4 v5 v6 : Value} (h : Rd w0 wp W g ps E T v1 v4 v5 v6) (hb : Below W.heap.size W W') : BadK w0 wp g W' := ⟨below_step h.below hb, (h.step hb).keep⟩
def Bad (g : Nat) (W : World) (k a : Int) (what : ByteArray) (e : Ending) (W' : World) : Prop :=
  ∃ B, e = .panicked [{ v := .iface 77 (.agg #[.iface 93 (.pointer (some ⟨B, 0, none⟩))]), recovered := false }] ∧ FaultAt W' (B, a, what) (.iface 49 (.int .i64 k)) ∧ W.heap.size ≤ B
theorem fault_new (W : World) (k a : Int) (s : ByteArray) : FaultAt (W.alloc (.cells #[.int .i64 a, .string s, .iface 49 (.int .i64 k)] 95)) (W.heap.size, a, s) (.iface 49 (.int .i64 k)) :=
  ⟨by rw [World.cell?_alloc_new]; rfl, by rw [World.cell?_alloc_new]; rfl, by rw [World.cell?_alloc_new]; rfl⟩
def stopE (E : Int) : List PieceR → Int × ByteArray
  | [] => (E, ⟨#[101, 110, 100]⟩)
  | p :: _ => (p.f0, ⟨#[115, 117, 98, 116, 97, 103]⟩)
set_option maxRecDepth 100000 in
set_option maxHeartbeats 1000000 in
theorem stop_calls {w0 wp W : World} {g : Nat} {ps : List PieceR} {E : Int} {T : TG} {v1 v4 v5 v6 : Value} (h : Rd w0 wp W g ps E T v1 v4 v5 v6) :
    Calls Tryz.prog 86 #[.pointer (some ⟨g, 0, none⟩)] W fun e W' => Bad g W 10 (stopE E ps).1 (stopE E ps).2 e W' ∧ Below W.heap.size W W' := by
  cases hps : ps with
  | nil =>
    obtain ⟨A, c, hg, hc, hp⟩ := h.cells
    have z0 : W.cell? ⟨g, 0, none⟩ = some (.slice A 0 c) := by rw [hps] at hg; exact (blk_cell hg 0).trans rfl
    have z1 : W.cell? ⟨g, 1, none⟩ = some (.int .i64 E) := (blk_cell hg 1).trans rfl
    clear hp hg h
    go_enter Tryz.func86, Tryz.ntmps86
    go_wp2_with (go_at_call 127; refine (New_ok 10 E ⟨#[101, 110, 100]⟩ _ (by decide)).mono ?_; rintro e w2 ⟨rfl, rfl⟩)
    exact ⟨rfl, ⟨W.heap.size, rfl, fault_new _ _ _ _, Nat.le_refl _⟩, below_alloc (Below.refl _ _) _⟩
  | cons p t =>
    obtain ⟨ad, c, z0, hc, x0, x1⟩ := h.first hps
    have hl : 0 < ps.length := by rw [hps]; simp
    obtain ⟨n, hn⟩ : ∃ n, n = ps.length := ⟨_, rfl⟩
    rw [← hn] at z0 hl hc
    have q0 : ((n : Int) == 0) = false := by rw [beq_eq_false_iff_ne]; omega
    have q1 : (0 : Int) < (n : Int) := by omega
    have q2 : decide ((0 : Int) < (n : Int)) = true := decide_eq_true q1
    obtain ⟨a, ha⟩ : ∃ a, a = p.f0 := ⟨_, rfl⟩
    have hs : stopE E (p :: t) = (a, ⟨#[115, 117, 98, 116, 97, 103]⟩) := by rw [ha]; rfl
    rw [hs]
    rw [← ha] at x0
    clear h hn hps hs ha x1
    go_enter Tryz.func86, Tryz.ntmps86
    go_wp2_with (go_at_call 127; refine (New_ok 10 a ⟨#[115, 117, 98, 116, 97, 103]⟩ _ (by decide)).mono ?_; rintro e w2 ⟨rfl, rfl⟩)
    exact ⟨rfl, ⟨W.heap.size, rfl, fault_new _ _ _ _, Nat.le_refl _⟩, below_alloc (Below.refl _ _) _⟩
set_option maxRecDepth 100000 in
set_option maxHeartbeats 1000000 in
theorem twice_no {W : World} (g : Nat) (s : ByteArray) : Calls Tryz.prog 120 #[.pointer (some ⟨g, 0, none⟩), .bool false, .string s] W fun e W' => e = .returned (.tuple #[]) ∧ W' = W := by
  go_enter Tryz.func120, Tryz.ntmps120
  go_wp2
  go_end0
  exact ⟨rfl, rfl⟩
set_option maxRecDepth 100000 in
set_option maxHeartbeats 1000000 in
theorem twice_yes {w0 wp W : World} {g : Nat} {ps : List PieceR} {E : Int} {T : TG} {v1 v4 v5 v6 : Value} (h : Rd w0 wp W g ps E T v1 v4 v5 v6) {p : PieceR} {t : List PieceR} (hps : ps = p :: t) (s : ByteArray) :
    Calls Tryz.prog 120 #[.pointer (some ⟨g, 0, none⟩), .bool true, .string s] W fun e W' => Bad g W 11 p.f0 s e W' ∧ Below W.heap.size W W' := by
  obtain ⟨ad, c, z0, hc, x0, x1⟩ := h.first hps
  have hl : 0 < ps.length := by rw [hps]; simp
  obtain ⟨n, hn⟩ : ∃ n, n = ps.length := ⟨_, rfl⟩
  rw [← hn] at z0 hl hc
  have q1 : (0 : Int) < (n : Int) := by omega
  have q2 : decide ((0 : Int) < (n : Int)) = true := decide_eq_true q1
  obtain ⟨a, ha⟩ : ∃ a, a = p.f0 := ⟨_, rfl⟩
  rw [← ha] at x0 ⊢
  clear h hn hps ha x1
  go_enter Tryz.func120, Tryz.ntmps120
  go_wp2_with (go_at_call 127; refine (New_ok 11 a s _ (by decide)).mono ?_; rintro e w2 ⟨rfl, rfl⟩)
  exact ⟨rfl, ⟨W.heap.size, rfl, fault_new _ _ _ _, Nat.le_refl _⟩, below_alloc (Below.refl _ _) _⟩
end Go.Proofs.YtejnfbfikadpdaaGreatDoor.P
