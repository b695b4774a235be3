/- extensions of parse's reader, walked. -/
import Derived.Test.YtejnfbfikadpdaaGreatDoorSq
import Derived.Test.YtejnfbfikadpdaaGreatDoorHandKey
import Derived.Test.YtejnfbfikadpdaaGreatDoorPx5
namespace Go.Proofs.YtejnfbfikadpdaaGreatDoor.P
open Go.RowKit Go.Shelf Go.Proofs.YtejnfbfikadpdaaGreatDoorW.PrintWords Go.Proofs.YtejnfbfikadpdaaGreatDoorW.PrintLast Go.Proofs.YtejnfbfikadpdaaGreatDoorW.PrintMore Go.Proofs.YtejnfbfikadpdaaGreatDoor.Iso
set_option linter.unusedVariables false
set_option linter.unusedSimpArgs false
attribute [local go_sem] Oper.semAt_some
theorem sing_calls (s : ByteArray) (hs : s.size ≤ 8) (W : World) : Calls Tryz.prog 122 #[.string s] W fun e W' => e = .returned (.bool (Iso.isSing (bl s))) ∧ Below W.heap.size W W' := by
  obtain ⟨k, hk⟩ := (tag_Singleton_ev s (by omega)).rounds
  exact tag_Singleton.calls k s _ W hk
abbrev qTwo (s : ByteArray) : Bool := decide (1 < s.size)
theorem so_Two : SoIs 125 qTwo := fun s hs W => by
  go_enter Tryz.func125, Tryz.ntmps125
  go_wp2
  go_ret
  refine ⟨?_, Drawn0.refl _⟩
  show Ending.returned (.bool (decide ((1 : Int) < (s.size : Int)))) = Ending.returned (.bool (decide (1 < s.size)))
  rw [decide_eq_decide.2 (show ((1 : Int) < (s.size : Int)) ↔ 1 < s.size by omega)]
abbrev isSi (s : ByteArray) : Bool := Iso.isSing (bl s)
def extF : Nat → List S47 → List PieceR → List S47 × List PieceR × Nat
  | 0, acc, ps => (acc, ps, 0)
  | _ + 1, acc, [] => (acc, [], 0)
  | n + 1, acc, p :: t => if oneB isSi (p :: t) then (if bl (hereB (p :: t)) ∈ keysOf acc then (acc, p :: t, 1) else if (rowL qTwo t).isEmpty then (acc, t, 2) else extF n (acc ++ [⟨hereB (p :: t), rowL qTwo t⟩]) (rowT qTwo t)) else (acc, p :: t, 0)
theorem extF_no {n : Nat} {acc : List S47} {ps : List PieceR} (h : oneB isSi ps = false) : extF n acc ps = (acc, ps, 0) := by
  cases n with
  | zero => rfl
  | succ n =>
    cases ps with
    | nil => rfl
    | cons p t => rw [extF, if_neg (by rw [h]; decide)]
structure ExAt (w0 wp W wr : World) (g b n : Nat) (ps0 ps : List PieceR) (E : Int) (T : TG) (v1 v4 u v6 : Value) (acc : List S47) : Prop where
  rd : Rd w0 wp wr g ps E { T with exts := acc } v1 v4 u v6
  box : wr.heap[b]? = some (.cells #[.pointer (some ⟨g, 0, none⟩)] 67 (0, 0))
  ne : b ≠ g
  le : W.heap.size ≤ wr.heap.size
  l : extF ps0.length [] ps0 = extF n acc ps
  n : ps.length ≤ n
  m : acc.length + ps.length ≤ ps0.length
theorem ExAt.step {w0 wp W wr w2 : World} {g b n : Nat} {ps0 ps : List PieceR} {E : Int} {T : TG} {v1 v4 u v6 : Value} {acc : List S47} (h : ExAt w0 wp W wr g b n ps0 ps E T v1 v4 u v6 acc) (hb : Below wr.heap.size wr w2) : ExAt w0 wp W w2 g b n ps0 ps E T v1 v4 u v6 acc :=
  ⟨h.rd.step hb, blk_on h.box hb, h.ne, Nat.le_trans h.le hb.size, h.l, h.n, h.m⟩
def ExtsSaid (w0 wp W : World) (g : Nat) (ps : List PieceR) (E : Int) (T : TG) (v1 v4 v6 : Value) (e : Ending) (W' : World) : Prop :=
  ((extF ps.length [] ps).2.2 = 0 ∧ ∃ u, e = .returned (.tuple #[]) ∧ Rd w0 wp W' g (extF ps.length [] ps).2.1 E { T with exts := (extF ps.length [] ps).1 } v1 v4 u v6) ∨
  ((extF ps.length [] ps).2.2 = 1 ∧ Bad g W 11 (atOf (extF ps.length [] ps).2.1) ⟨#[115, 105, 110, 103, 108, 101, 116, 111, 110]⟩ e W' ∧ BadK w0 wp g W') ∨
  ((extF ps.length [] ps).2.2 = 2 ∧ Bad g W 10 (stopE E (extF ps.length [] ps).2.1).1 (stopE E (extF ps.length [] ps).2.1).2 e W' ∧ BadK w0 wp g W')
theorem rowT_none {q : ByteArray → Bool} : ∀ {t : List PieceR}, rowL q t = [] → rowT q t = t
  | [], _ => rfl
  | p :: t, h => by
    rw [rowL] at h
    rw [rowT]
    split at h
    · cases h
    · rename_i c; rw [if_neg c]
theorem keep_blk {W W' : World} {g b : Nat} {o : Obj} (hb : W.heap[b]? = some o) (hk : KeepBut W W' g none) (hne : b ≠ g) : W'.heap[b]? = some o := (hk.2 b (blk_lt hb) hne (by simp)).trans hb
section
variable {w0 wp W W2 : World} {g : Nat} {ps : List PieceR} {E : Int} {T : TG} {v1 v4 v5 v6 v : Value} {subs : List ByteArray}
theorem ext_new (h : Rd w0 wp W g ps E T v1 v4 v5 v6) (key : ByteArray) (hr : Kd.R Kd.string 9 W2 W.heap.size (fun _ => True) v subs) : k47.M W2 wp.heap.size (fun k => W.heap.size ≤ k) (⟨key, subs⟩ : S47) [.string key, v] :=
  k47_mkM _ _ _ (⟨key, subs⟩ : S47) (Kd.R_mono (Kd.R_lower (Kd.R_bound hr) h.size) (fun k hk => hk.2.1))
theorem ext_old (h : Rd w0 wp W g ps E T v1 v4 v5 v6) (hk : KeepBut W W2 g none) : Kd.S k47 47 W2 wp.heap.size (fun k => (some k ≠ v1.ownBlock ∧ some k ≠ v4.ownBlock ∧ some k ≠ v6.ownBlock) ∧ ¬ (W.heap.size ≤ k)) v5 T.exts := by
  obtain ⟨cells, hg⟩ := h.blk
  exact Kd.S_mono (Kd.S_keep (Kd.S_bound (Kd.S_types h.own.2.2.1 hg (by decide))) hk (fun k hk => hk.1.2)) (fun k hk => ⟨hk.1.1, by have := hk.2.2.1; omega⟩)
theorem ext_okp (h : Rd w0 wp W g ps E T v1 v4 v5 v6) (k : Nat) (hk : W.heap.size ≤ k) : (some k ≠ v1.ownBlock ∧ some k ≠ v4.ownBlock ∧ some k ≠ v6.ownBlock) ∧ some k ≠ v5.ownBlock :=
  ⟨h.own.fresh5 k hk, fun e => absurd (Kd.S_lt h.own.2.2.1 _ e.symm) (by omega)⟩
end
def ex2_T : Bool × List (List Nat × List Nat) := (true, [([], []), ([], []), ([1], [1]), ([2], [2]), ([3], [3]), ([4], [4]), ([], []), ([5, 6], [5, 6]), ([0, 7, 7], [0, 7])])
def ex2_B : List Nat := [0, 0, 2, 6, 14, 30, 0, 126, 255]
theorem ex2_tab : rtab .any (opsOf Tryz.f82 2) = ex2_T := by kernel_rfl
theorem ex2_bits : waitsOk ex2_T.2 ex2_B = true := by kernel_rfl
def ex4_T : Bool × List (List Nat × List Nat) := (true, [([], []), ([], []), ([1], [1]), ([2], [2]), ([3], [3]), ([4], [4]), ([], []), ([], []), ([7], [7]), ([6, 8], [6, 8]), ([9], [9]), ([5, 10, 8], [5, 10]), ([0, 0, 1, 2, 3, 4, 5, 6, 7, 8, 9, 10, 11], [0]), ([12, 0, 1, 2, 3, 4, 5, 6, 7, 8, 9, 10, 11], [12]), ([13, 0, 1, 2, 3, 4, 5, 6, 7, 8, 9, 10, 11], [13]), ([14, 11, 11, 0, 1, 2, 3, 4, 5, 6, 7, 8, 9, 10, 11], [11, 14])])
def ex4_B : List Nat := [0, 0, 2, 6, 14, 30, 0, 0, 128, 448, 960, 2046, 4095, 8191, 16383, 32767]
theorem ex4_tab : rtab .any (opsOf Tryz.f82 4) = ex4_T := by kernel_rfl
theorem ex4_bits : waitsOk ex4_T.2 ex4_B = true := by kernel_rfl
set_option maxRecDepth 100000 in
set_option maxHeartbeats 4000000 in
theorem extensions_calls {w0 wp W : World} {g : Nat} {ps : List PieceR} {E : Int} {T : TG} {v1 v4 v6 : Value} (h : Rd w0 wp W g ps E T v1 v4 (.slice none 0 0) v6) (hx : T.exts = []) (hn : ps.length ≤ 1000000) :
    Calls Tryz.prog 82 #[.pointer (some ⟨g, 0, none⟩)] W fun e W' => ExtsSaid w0 wp W g ps E T v1 v4 v6 e W' := by
  have HN := Lib.hid hn
  have hgW : g < W.heap.size := Nat.lt_of_lt_of_le h.hi h.size
  have L0 := Lib.hid (show ExAt w0 wp W (W.alloc (.cells #[.pointer (some ⟨g, 0, none⟩)] 67)) g W.heap.size ps.length ps ps E T v1 v4 (.slice none 0 0) v6 [] from ⟨by
      have h2 := h.step (below_alloc (Below.refl _ _) (.cells #[.pointer (some ⟨g, 0, none⟩)] 67))
      rwa [show T = { T with exts := [] } by rw [← hx]] at h2, new_blk _ _, by omega, by simp, rfl, Nat.le_refl _, by simp⟩)
  clear h hx hn hgW
  obtain ⟨b, hb⟩ : ∃ b, b = W.heap.size := ⟨_, rfl⟩
  go_enter Tryz.func82, Tryz.ntmps82
  go_wp2
  rw [← hb] at L0 ⊢
  clear hb
  go_loopw [] (fun wr => ∃ (n : Nat) (ps' : List PieceR) (acc : List S47) (u : Value), Hid (ExAt w0 wp W wr g b n ps ps' E T v1 v4 u v6 acc)) (fun wr => leftAt wr g)
  case atStart => exact ⟨ps.length, ps, [], _, L0⟩
  case round =>
    clear L0
    obtain ⟨n, ps', acc, u, hR⟩ := hrel
    obtain ⟨A, d, hu⟩ := Kd.S_slice hR.out.rd.own.2.2.1
    replace hu : u = .slice A acc.length d := hu
    subst hu
    have zb : wr.cell? ⟨b, 0, none⟩ = some (.pointer (some ⟨g, 0, none⟩)) := (blk_cell hR.out.box 0).trans rfl
    by_cases c : (hereB ps').toList.isEmpty = true
    · have HS := Lib.hid (here_none c).symm
      have HO := Lib.hid (show oneB isSi ps' = false by unfold oneB; rw [c]; rfl)
      clear c
      go_wp2_with (first | (go_at_call 76; refine (here_calls (by first | exact hR.out.rd | exact hR.out.rd.drewN _)).mono ?_; rw [← HS.out]; rintro e w2 ⟨rfl, ⟨nd, rfl⟩⟩) | (go_at_call 122; refine (HX.out _).mono ?_; rintro e w2 ⟨rfl, hb⟩; have hR2 := Lib.hid ((hR.out.step (pw_below_drewN (Below.refl _ _) _)).step hb); have zb2 : World.cell? w2 ⟨b, 0, none⟩ = some (.pointer (some ⟨g, 0, none⟩)) := (blk_cell hR2.out.box 0).trans rfl; obtain ⟨A0, c0, hgr, -, -⟩ := hR2.out.rd.cells; clear hb))
      go_end0
      have l0 := hR.out.l
      rw [extF_no HO.out] at l0
      refine Or.inl ⟨by rw [l0], .slice A acc.length d, rfl, ?_⟩
      rw [l0]
      exact hR.out.rd.drewN _
    · have c1 : (hereB ps').toList.isEmpty = false := by simpa using c
      obtain ⟨p, t, hps, h1, h2, h3⟩ := here_ne c1
      have HP := Lib.hid hps
      have HX0 := sing_calls (hereB ps') (here_size ps')
      have HX := Lib.hid HX0
      clear HX0
      obtain ⟨x, hx⟩ : ∃ x, x = hereB ps' := ⟨_, rfl⟩
      have HS := Lib.hid hx
      have hn : ¬ (x.toList = ([] : List UInt8)) := by rw [hx]; exact fun e => by rw [e] at c1; cases c1
      have hn1 : (x.toList == ([] : List UInt8)) = false := beq_eq_false_iff_ne.2 hn
      have hn2 : (x.toList != ([] : List UInt8)) = true := bne_iff_ne.2 hn
      rw [← hx] at c1 HX
      have hn3 : (!x.toList.isEmpty) = true := by rw [c1]; rfl
      by_cases hv : Iso.isSing (bl x) = true
      · have HO := Lib.hid (show oneB isSi ps' = true by unfold oneB; rw [← hx, c1]; show (!false && Iso.isSing (bl x)) = true; rw [hv]; rfl)
        rw [hv] at HX
        have hAC : acc.length ≤ 1000000 := by have := hR.out.m; have := HN.out; omega
        have HAC := Lib.hid hAC
        have HAD := Lib.hid (Kd.S_reads' hR.out.rd.own.2.2.1).2.1
        obtain ⟨m, hm1⟩ : ∃ m, n = m + 1 := ⟨n - 1, by have := hR.out.n; rw [hps, List.length_cons] at this; omega⟩
        subst hm1
        by_cases hm : bl x ∈ keysOf acc
        · have HM := Lib.hid (show decide (bl x ∈ keysOf acc) = true from decide_eq_true hm)
          have HMM := Lib.hid hm
          clear c h1 h2 h3 hps hx hv hAC hm
          go_wp2_with (first | (go_at_call 76; refine (here_calls (by first | exact hR.out.rd | exact hR.out.rd.drewN _)).mono ?_; rw [← HS.out]; rintro e w2 ⟨rfl, ⟨nd, rfl⟩⟩) | (go_at_call 122; refine (HX.out _).mono ?_; rintro e w2 ⟨rfl, hb⟩; have hR2 := Lib.hid ((hR.out.step (pw_below_drewN (Below.refl _ _) _)).step hb); have zb2 : World.cell? w2 ⟨b, 0, none⟩ = some (.pointer (some ⟨g, 0, none⟩)) := (blk_cell hR2.out.box 0).trans rfl; obtain ⟨A0, c0, hgr, -, -⟩ := hR2.out.rd.cells; clear hb))
          refine start_ (n := 9) (S := fun w' => w'.cell? ⟨b, 0, none⟩ = some (.pointer (some ⟨g, 0, none⟩)) ∧ w'.cell? ⟨g, 7, none⟩ = some (.slice A acc.length d)) (ds := []) #[false, false, false, false, false, false, false, false, false] (by kernel_rfl) rfl rfl (show World.cell? _ ⟨b, 0, none⟩ = some _ ∧ World.cell? _ ⟨g, 7, none⟩ = some _ from ⟨(blk_cell hR2.out.box 0).trans rfl, (blk_cell hgr 7).trans rfl⟩) (fun hHeld => ?_); refine with_tabW ex2_tab ex2_bits (fun HT_ HW_ => ?_)
          refine tk_ (i := 0) (N := some 11) HT_ HW_ (bl_ 9 1) hHeld ?_ (hy := by rintro w' ⟨s0, s1⟩; go_simp; with_reducible rfl)
          refine tk_ (i := 1) (N := some 12) HT_ HW_ (bl_ 9 3) hHeld ?_ (hy := by rintro w' ⟨s0, s1⟩; go_simp; with_reducible rfl)
          refine pu_ (i := 2) (N := some 13) HT_ (bl_ 9 7) ?_
          refine pu_ (i := 3) (N := some 14) HT_ (bl_ 9 15) ?_
          refine pu_ (i := 4) (N := some 15) HT_ (bl_ 9 31) ?_
          refine tk_ (i := 5) (N := some 16) HT_ HW_ (bl_ 9 63) hHeld ?_ (hy := by rintro w' ⟨s0, s1⟩; go_simp; with_reducible rfl)
          refine pu_ (i := 6) (N := some 17) HT_ (bl_ 9 127) ?_
          refine on_ (i := 7) (N := some 18) HT_ (bl_ 9 255) rfl rfl (fun K hK => ?_)
          refine gs_ Tryz.func123 #[.slice A acc.length d, .func (.func 124) #[] #[.pointer (some ⟨b, 0, none⟩)]] ?_
          have hrd := Rd.step hR2.out.rd (below_drew (Below.refl _ _))
          refine (keyHas_calls (W := w2.drew) b hR2.out.box hrd A d acc (Kd.S_reads' hrd.own.2.2.1).2.2 HAD.out HAC.out).mono ?_
          rw [← HS.out]
          unfold HasSaid
          rw [HM.out]
          rintro e w4 ⟨rfl, hb⟩
          have HBB := Lib.hid hb
          have HR4 := Lib.hid (ExAt.step (wr := w2.drew) (hR2.out.step (below_drew (Below.refl _ _))) hb)
          have HG4 := Lib.hid (blk_on (w := w2.drew) hgr hb)
          clear hb
          refine ⟨_, rfl, ?_⟩
          refine hK.out _ _ ⟨(blk_cell HR4.out.box 0).trans rfl, (blk_cell HG4.out 7).trans rfl⟩ (fun hHeld => ?_)
          clear hK K
          refine nm_ (some 18) ?_
          refine on_ (i := 8) (N := some 19) HT_ (bl_ 9 511) rfl rfl (fun K hK => ?_)
          refine goesX_ Tryz.func120 (by kernel_rfl) rfl #[.pointer (some ⟨g, 0, none⟩), .bool true, .string ⟨#[115, 105, 110, 103, 108, 101, 116, 111, 110]⟩] (by rfl) rfl rfl (by simp only [List.map_toArray, List.map_cons, List.map_nil]; rfl) ?_
          refine (twice_yes HR4.out.rd HP.out _).mono ?_
          rintro e w3 ⟨⟨B, rfl, hF, hB⟩, hb⟩
          refine Or.inr ⟨_, rfl, ?_⟩
          have l0 := hR.out.l
          rw [HP.out, extF, ← HP.out, if_pos HO.out, ← HS.out, if_pos HMM.out] at l0
          refine ⟨rfl, Or.inr (Or.inl ⟨by rw [l0], ?_, HR4.out.rd.badK hb⟩)⟩
          rw [l0]
          refine ⟨B, rfl, by rw [HP.out]; exact hF, ?_⟩
          exact Nat.le_trans HR4.out.le hB
        · have HM := Lib.hid (show decide (bl x ∈ keysOf acc) = false from decide_eq_false hm)
          have HMM := Lib.hid hm
          clear c h1 h2 h3 hps hx hv hAC hm
          go_wp2_with (first | (go_at_call 76; refine (here_calls (by first | exact hR.out.rd | exact hR.out.rd.drewN _)).mono ?_; rw [← HS.out]; rintro e w2 ⟨rfl, ⟨nd, rfl⟩⟩) | (go_at_call 122; refine (HX.out _).mono ?_; rintro e w2 ⟨rfl, hb⟩; have hR2 := Lib.hid ((hR.out.step (pw_below_drewN (Below.refl _ _) _)).step hb); have zb2 : World.cell? w2 ⟨b, 0, none⟩ = some (.pointer (some ⟨g, 0, none⟩)) := (blk_cell hR2.out.box 0).trans rfl; obtain ⟨A0, c0, hgr, -, -⟩ := hR2.out.rd.cells; clear hb))
          refine start_ (n := 9) (S := fun w' => w'.cell? ⟨b, 0, none⟩ = some (.pointer (some ⟨g, 0, none⟩)) ∧ w'.cell? ⟨g, 7, none⟩ = some (.slice A acc.length d)) (ds := []) #[false, false, false, false, false, false, false, false, false] (by kernel_rfl) rfl rfl (show World.cell? _ ⟨b, 0, none⟩ = some _ ∧ World.cell? _ ⟨g, 7, none⟩ = some _ from ⟨(blk_cell hR2.out.box 0).trans rfl, (blk_cell hgr 7).trans rfl⟩) (fun hHeld => ?_); refine with_tabW ex2_tab ex2_bits (fun HT_ HW_ => ?_)
          refine tk_ (i := 0) (N := some 11) HT_ HW_ (bl_ 9 1) hHeld ?_ (hy := by rintro w' ⟨s0, s1⟩; go_simp; with_reducible rfl)
          refine tk_ (i := 1) (N := some 12) HT_ HW_ (bl_ 9 3) hHeld ?_ (hy := by rintro w' ⟨s0, s1⟩; go_simp; with_reducible rfl)
          refine pu_ (i := 2) (N := some 13) HT_ (bl_ 9 7) ?_
          refine pu_ (i := 3) (N := some 14) HT_ (bl_ 9 15) ?_
          refine pu_ (i := 4) (N := some 15) HT_ (bl_ 9 31) ?_
          refine tk_ (i := 5) (N := some 16) HT_ HW_ (bl_ 9 63) hHeld ?_ (hy := by rintro w' ⟨s0, s1⟩; go_simp; with_reducible rfl)
          refine pu_ (i := 6) (N := some 17) HT_ (bl_ 9 127) ?_
          refine on_ (i := 7) (N := some 18) HT_ (bl_ 9 255) rfl rfl (fun K hK => ?_)
          refine gs_ Tryz.func123 #[.slice A acc.length d, .func (.func 124) #[] #[.pointer (some ⟨b, 0, none⟩)]] ?_
          have hrd := Rd.step hR2.out.rd (below_drew (Below.refl _ _))
          refine (keyHas_calls (W := w2.drew) b hR2.out.box hrd A d acc (Kd.S_reads' hrd.own.2.2.1).2.2 HAD.out HAC.out).mono ?_
          rw [← HS.out]
          unfold HasSaid
          rw [HM.out]
          rintro e w4 ⟨rfl, hb⟩
          have HBB := Lib.hid hb
          have HR4 := Lib.hid (ExAt.step (wr := w2.drew) (hR2.out.step (below_drew (Below.refl _ _))) hb)
          have HG4 := Lib.hid (blk_on (w := w2.drew) hgr hb)
          clear hb
          refine ⟨_, rfl, ?_⟩
          refine hK.out _ _ ⟨(blk_cell HR4.out.box 0).trans rfl, (blk_cell HG4.out 7).trans rfl⟩ (fun hHeld => ?_)
          clear hK K
          refine nm_ (some 18) ?_
          refine on_ (i := 8) (N := some 19) HT_ (bl_ 9 511) rfl rfl (fun K hK => ?_)
          refine gs_ Tryz.func120 #[.pointer (some ⟨g, 0, none⟩), .bool false, .string ⟨#[115, 105, 110, 103, 108, 101, 116, 111, 110]⟩] ?_
          refine (twice_no g _).mono ?_
          rintro e w5 ⟨rfl, rfl⟩
          refine ⟨_, rfl, ?_⟩
          refine hK.out _ _ ⟨(blk_cell HR4.out.box 0).trans rfl, (blk_cell HG4.out 7).trans rfl⟩ (fun hHeld => ?_)
          clear hK K
          refine nm_ (some 19) ?_
          refine done_ (done_of HT_.out (by kernel_rfl)) ?_
          have zb4 : World.cell? _ ⟨b, 0, none⟩ = some (.pointer (some ⟨g, 0, none⟩)) := (blk_cell HR4.out.box 0).trans rfl
          obtain ⟨subs, hsubs⟩ : ∃ s, s = rowL qTwo t := ⟨_, rfl⟩
          have HU := Lib.hid hsubs
          have HTL := Lib.hid (show t.length ≤ 1000000 by have := HR4.out.m; rw [HP.out, List.length_cons] at this; have := HN.out; omega)
          by_cases hsub : subs = []
          · have HSUB := Lib.hid (show rowL qTwo t = [] by rw [← HU.out]; exact hsub)
            clear hsubs hsub
            go_wp2_with (go_at_call 83; refine (take_calls HR4.out.rd HP.out).mono ?_; rw [← HS.out]; rintro e w5 ⟨rfl, hRd, hK⟩; have HR5 := Lib.hid hRd; have HK5 := Lib.hid hK; have HBX5 := Lib.hid (keep_blk HR4.out.box hK HR4.out.ne); have zb5 : World.cell? w5 ⟨b, 0, none⟩ = some (.pointer (some ⟨g, 0, none⟩)) := (blk_cell HBX5.out 0).trans rfl; obtain ⟨A5, c5, hg5, -, -⟩ := HR5.out.cells; clear hRd hK)
            refine start_ (n := 16) (S := fun w' => w'.cell? ⟨b, 0, none⟩ = some (.pointer (some ⟨g, 0, none⟩)) ∧ w'.cell? ⟨g, 7, none⟩ = some (.slice A acc.length d)) (ds := [15]) #[false, false, false, false, false, false, false, false, false, false, false, false, false, false, false, false] (by kernel_rfl) rfl rfl (show World.cell? _ ⟨b, 0, none⟩ = some _ ∧ World.cell? _ ⟨g, 7, none⟩ = some _ from ⟨(blk_cell HBX5.out 0).trans rfl, (blk_cell hg5 7).trans rfl⟩) (fun hHeld => ?_); refine with_tabW ex4_tab ex4_bits (fun HT_ HW_ => ?_)
            refine tk_ (i := 0) (N := some 22) HT_ HW_ (bl_ 16 1) hHeld ?_ (hy := by rintro w' ⟨s0, s1⟩; go_simp; with_reducible rfl)
            refine tk_ (i := 1) (N := some 23) HT_ HW_ (bl_ 16 3) hHeld ?_ (hy := by rintro w' ⟨s0, s1⟩; go_simp; with_reducible rfl)
            refine pu_ (i := 2) (N := some 24) HT_ (bl_ 16 7) ?_
            refine pu_ (i := 3) (N := some 25) HT_ (bl_ 16 15) ?_
            refine pu_ (i := 4) (N := some 26) HT_ (bl_ 16 31) ?_
            refine tk_ (i := 5) (N := some 27) HT_ HW_ (bl_ 16 63) hHeld ?_ (hy := by rintro w' ⟨s0, s1⟩; go_simp; with_reducible rfl)
            refine pu_ (i := 6) (N := some 28) HT_ (bl_ 16 127) ?_
            refine tk_ (i := 7) (N := some 29) HT_ HW_ (bl_ 16 255) hHeld ?_ (hy := by rintro w' ⟨s0, s1⟩; go_simp; with_reducible rfl)
            refine on_ (i := 8) (N := some 30) HT_ (bl_ 16 511) rfl rfl (fun K hK => ?_)
            refine goesX_ Tryz.func84 (by kernel_rfl) rfl #[.pointer (some ⟨g, 0, none⟩), .func (.func 125) #[] #[]] (by rfl) rfl rfl (by simp only [List.map_toArray, List.map_cons, List.map_nil]; rfl) ?_
            refine (someTwo (W := w5.drew) (Rd.step HR5.out (below_drew (Below.refl _ _))) so_Two HTL.out).mono ?_
            rintro e w6 hh
            rcases hh with ⟨hne, _⟩ | ⟨_, ⟨B, rfl, hF, hB⟩, hb⟩
            · exact absurd HSUB.out hne
            refine Or.inr ⟨_, rfl, ?_⟩
            have l0 := hR.out.l
            rw [HP.out, extF, ← HP.out, if_pos HO.out, ← HS.out, if_neg HMM.out, if_pos (by rw [HSUB.out]; rfl)] at l0
            refine ⟨rfl, Or.inr (Or.inr ⟨by rw [l0], ?_, hb⟩)⟩
            rw [l0]
            rw [rowT_none HSUB.out] at hF
            exact ⟨B, rfl, hF, Nat.le_trans HR4.out.le (Nat.le_trans HK5.out.1 hB)⟩
          · have HSUB := Lib.hid (show ¬ (rowL qTwo t = []) by rw [← HU.out]; exact hsub)
            obtain ⟨y, hy⟩ : ∃ y, y = acc ++ [(⟨x, subs⟩ : S47)] := ⟨_, rfl⟩
            have HL := Lib.hid hy
            clear hsubs hsub hy
            go_wp2_with (go_at_call 83; refine (take_calls HR4.out.rd HP.out).mono ?_; rw [← HS.out]; rintro e w5 ⟨rfl, hRd, hK⟩; have HR5 := Lib.hid hRd; have HK5 := Lib.hid hK; have HBX5 := Lib.hid (keep_blk HR4.out.box hK HR4.out.ne); have zb5 : World.cell? w5 ⟨b, 0, none⟩ = some (.pointer (some ⟨g, 0, none⟩)) := (blk_cell HBX5.out 0).trans rfl; obtain ⟨A5, c5, hg5, -, -⟩ := HR5.out.cells; clear hRd hK)
            refine start_ (n := 16) (S := fun w' => w'.cell? ⟨b, 0, none⟩ = some (.pointer (some ⟨g, 0, none⟩)) ∧ w'.cell? ⟨g, 7, none⟩ = some (.slice A acc.length d)) (ds := [15]) #[false, false, false, false, false, false, false, false, false, false, false, false, false, false, false, false] (by kernel_rfl) rfl rfl (show World.cell? _ ⟨b, 0, none⟩ = some _ ∧ World.cell? _ ⟨g, 7, none⟩ = some _ from ⟨(blk_cell HBX5.out 0).trans rfl, (blk_cell hg5 7).trans rfl⟩) (fun hHeld => ?_); refine with_tabW ex4_tab ex4_bits (fun HT_ HW_ => ?_)
            refine tk_ (i := 0) (N := some 22) HT_ HW_ (bl_ 16 1) hHeld ?_ (hy := by rintro w' ⟨s0, s1⟩; go_simp; with_reducible rfl)
            refine tk_ (i := 1) (N := some 23) HT_ HW_ (bl_ 16 3) hHeld ?_ (hy := by rintro w' ⟨s0, s1⟩; go_simp; with_reducible rfl)
            refine pu_ (i := 2) (N := some 24) HT_ (bl_ 16 7) ?_
            refine pu_ (i := 3) (N := some 25) HT_ (bl_ 16 15) ?_
            refine pu_ (i := 4) (N := some 26) HT_ (bl_ 16 31) ?_
            refine tk_ (i := 5) (N := some 27) HT_ HW_ (bl_ 16 63) hHeld ?_ (hy := by rintro w' ⟨s0, s1⟩; go_simp; with_reducible rfl)
            refine pu_ (i := 6) (N := some 28) HT_ (bl_ 16 127) ?_
            refine tk_ (i := 7) (N := some 29) HT_ HW_ (bl_ 16 255) hHeld ?_ (hy := by rintro w' ⟨s0, s1⟩; go_simp; with_reducible rfl)
            refine on_ (i := 8) (N := some 30) HT_ (bl_ 16 511) rfl rfl (fun K hK => ?_)
            refine gs_ Tryz.func84 #[.pointer (some ⟨g, 0, none⟩), .func (.func 125) #[] #[]] ?_
            refine (someTwo (W := w5.drew) (Rd.step HR5.out (below_drew (Below.refl _ _))) so_Two HTL.out).mono ?_
            rintro e w6 hh
            rcases hh with ⟨_, v, rfl, hr, hRd, hK⟩ | ⟨he, _⟩
            rotate_left
            · exact absurd he HSUB.out
            rw [← HU.out] at hr
            obtain ⟨B, db, hv⟩ := Kd.R_slice hr
            subst hv
            have HRS := Lib.hid hr
            have HRd6 := Lib.hid hRd
            have HK6 := Lib.hid hK
            have HBX6 := Lib.hid (keep_blk (W := w5.drew) HBX5.out hK HR4.out.ne)
            have HG6 := Lib.hid (show ∃ A_ c_, w6.heap[g]? = some (.cells (rdCells A_ (rowT qTwo t).length c_ E { T with exts := acc } v1 v4 (.slice A acc.length d) v6) 70 (0, 0)) by obtain ⟨A_, c_, h_, _⟩ := hRd.cells; exact ⟨A_, c_, h_⟩)
            clear hr hRd hK
            refine ⟨_, rfl, ?_⟩
            refine hK.out _ _ (show World.cell? _ ⟨b, 0, none⟩ = some _ ∧ World.cell? _ ⟨g, 7, none⟩ = some _ from ⟨(blk_cell HBX6.out 0).trans rfl, (blk_cell HG6.out.choose_spec.choose_spec 7).trans rfl⟩) (fun hHeld => ?_)
            clear hK K
            refine nm_ (some 30) ?_
            refine pu_ (i := 9) (N := some 31) HT_ (bl_ 16 1023) ?_
            refine on_ (i := 10) (N := some 32) HT_ (bl_ 16 2047) rfl rfl (fun K hK => ?_)
            refine value_ (w1 := ?_) (v := ?_) (by rfl) rfl ?_ ?_
            rotate_left 2
            · go_simp
              constructor
              · rfl
              · rfl
            refine hK.out _ _ (show World.cell? _ ⟨b, 0, none⟩ = some _ ∧ World.cell? _ ⟨g, 7, none⟩ = some _ from ⟨(blk_cell (blk_on HBX6.out (below_alloc (Below.refl _ _) _)) 0).trans rfl, (blk_cell (blk_on HG6.out.choose_spec.choose_spec (below_alloc (Below.refl _ _) _)) 7).trans rfl⟩) (fun hHeld => ?_)
            clear hK K
            refine nm_ (some 32) ?_
            refine on_ (i := 11) (N := some 33) HT_ (bl_ 16 4095) rfl rfl (fun K hK => ?_)
            (refine Kd.S_append_step k47 (w0 := w6) wp.heap.size (by rfl) (.tmp 27) (.tmp 32) 27 47 (.agg #[.string ⟨#[]⟩, .slice none 0 0]) 40 rfl Tryz.underlying27 info47 rfl (by decide) (by decide) (.slice A acc.length d) acc (⟨x, subs⟩ : S47) [.string x, .slice B subs.length db] (fun k_ => some k_ ≠ v1.ownBlock ∧ some k_ ≠ v4.ownBlock ∧ some k_ ≠ v6.ownBlock) (fun k_ => w5.drew.heap.size ≤ k_) rfl ?aX (ext_new (W := w5.drew) (Rd.step HR5.out (below_drew (Below.refl _ _))) x HRS.out) (fun k hk => ext_okp (W := w5.drew) (Rd.step HR5.out (below_drew (Below.refl _ _))) k hk) (fun k hk => HRd6.out.own.fresh5 k hk) (ext_old (W := w5.drew) (Rd.step HR5.out (below_drew (Below.refl _ _))) HK6.out) (Below.refl _ _) ?aS ?aL ?_; (case aX => rfl); (case aS => exact HRd6.out.size); (case aL => have := HAC.out; omega); intro x_ w7 hs_ hb_ hg_ hat_; rw [← HL.out] at hs_; obtain ⟨A', d', hx_⟩ := Kd.S_slice hs_; subst hx_; have HS7 := Lib.hid hs_; have HB7 := Lib.hid hb_; have HG7 := Lib.hid hg_; have HG8 := Lib.hid (blk_grown HG6.out.choose_spec.choose_spec hg_ (Kd.S_ne HRd6.out.own.2.2.1 HG6.out.choose_spec.choose_spec (by decide))); have HBX7 := Lib.hid (blk_grown HBX6.out hg_ (Kd.S_ne HRd6.out.own.2.2.1 HBX6.out (by decide))); have z7 : World.cell? _ ⟨g, 7, none⟩ = some _ := (blk_cell HG8.out 7).trans rfl; have f7 := blk_frozen HG8.out 7; clear hs_ hb_ hg_ hat_)
            refine hK.out _ _ ⟨(blk_cell HBX7.out 0).trans rfl, z7⟩ (fun hHeld => ?_)
            clear hK K
            refine nm_ (some 33) ?_
            refine pu_ (i := 12) (N := some 34) HT_ (bl_ 16 8191) ?_
            refine pu_ (i := 13) (N := some 35) HT_ (bl_ 16 16383) ?_
            refine pu_ (i := 14) (N := some 36) HT_ (bl_ 16 32767) ?_
            refine last_ (i := 15) (N := none) #[true, true, true, true, true, true, true, true, true, true, true, true, true, true, true, true] rfl rfl (one_of HT_.out (by kernel_rfl)) (by decide) (fun K hK => ?_)
            refine skip_ (w1 := ?_) (by rfl) rfl ?_ ?_
            rotate_left
            · go_simp
              rfl
            refine hK.out _ _ ?_
            clear hK K
            refine done_ (done_of HT_.out (by kernel_rfl)) ?_
            go_wp2
            have st := HRd6.out.app5 HB7.out HG7.out HS7.out
            have l0 := hR.out.l
            have n0 := HR4.out.n
            have m0 := HR4.out.m
            have r0 := rowL_len qTwo t
            rw [HP.out, extF, ← HP.out, if_pos HO.out, ← HS.out, if_neg HMM.out, if_neg (by rw [List.isEmpty_iff]; exact HSUB.out), ← HU.out, ← HL.out] at l0
            rw [HP.out, List.length_cons] at n0 m0
            refine ⟨⟨m, rowT qTwo t, y, _, Lib.hid ⟨st, blk_far (p := ⟨g, 7, none⟩) HBX7.out HR4.out.ne _, HR4.out.ne, ?_, l0, by omega, by rw [HL.out, List.length_append, List.length_singleton]; omega⟩⟩, ?_⟩
            · have h1 : W.heap.size ≤ w7.heap.size := Nat.le_trans HR4.out.le (Nat.le_trans HK5.out.1 (Nat.le_trans HK6.out.1 HB7.out.size))
              simpa [World.setCell] using h1
            · have e1 := st.left
              have e2 := hR.out.rd.left
              rw [HP.out] at e2
              rw [e1, e2, List.length_cons]
              omega
      · have hf : Iso.isSing (bl x) = false := by simpa using hv
        have HO := Lib.hid (show oneB isSi ps' = false by unfold oneB; rw [← hx]; show (_ && Iso.isSing (bl x)) = false; rw [hf, Bool.and_false])
        rw [hf] at HX
        clear c h1 h2 h3 hps hx hv hf
        go_wp2_with (first | (go_at_call 76; refine (here_calls (by first | exact hR.out.rd | exact hR.out.rd.drewN _)).mono ?_; rw [← HS.out]; rintro e w2 ⟨rfl, ⟨nd, rfl⟩⟩) | (go_at_call 122; refine (HX.out _).mono ?_; rintro e w2 ⟨rfl, hb⟩; have hR2 := Lib.hid ((hR.out.step (pw_below_drewN (Below.refl _ _) _)).step hb); have zb2 : World.cell? w2 ⟨b, 0, none⟩ = some (.pointer (some ⟨g, 0, none⟩)) := (blk_cell hR2.out.box 0).trans rfl; obtain ⟨A0, c0, hgr, -, -⟩ := hR2.out.rd.cells; clear hb))
        go_end0
        have l0 := hR.out.l
        rw [extF_no HO.out] at l0
        refine Or.inl ⟨by rw [l0], .slice A acc.length d, rfl, ?_⟩
        rw [l0]
        exact hR2.out.rd
end Go.Proofs.YtejnfbfikadpdaaGreatDoor.P
