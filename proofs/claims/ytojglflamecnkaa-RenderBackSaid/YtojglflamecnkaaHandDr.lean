/- The reader of the document's answer, in the memory; its here, wrong, twice walked. -/
import Derived.Test.YtojglflamecnkaaSq
import Derived.Test.YtojglflamecnkaaPureBack
import Derived.Deep.QuietTactic
import Derived.Test.YtojglflamecnkaaPx14
namespace Go.Proofs.Ytojglflamecnkaa.P
open Go.RowKit Go.Shelf Go.Proofs.YtojglflamecnkaaW.PrintWords Go.Proofs.YtojglflamecnkaaW.PrintLast Go.Proofs.Ytojglflamecnkaa.Iso
set_option linter.unusedVariables false
set_option linter.unusedSimpArgs false
abbrev P04 := S58
def lowP (p : P04) : PieceR := ⟨p.f0, mk (low (bl p.f1))⟩
structure Dr (wL W : World) (g : Nat) (L : List P04) (ps : List PieceR) (E : Int) : Prop where
  blw : Below wL.heap.size wL W
  gl : wL.heap.size ≤ g
  few : L.length ≤ 1000000
  small : ∀ p ∈ L, p.f1.size ≤ 1000000
  rd : ∃ (A : Option Addr) (c i : Nat), W.heap[g]? = some (.cells #[.slice A L.length c, .int .i64 (i : Int), .int .i64 E] 68 (0, 0)) ∧ L.length ≤ c ∧ Kd.C k58 wL A L.length L ∧ i ≤ L.length ∧ ps = (L.drop i).map lowP
theorem Dr.step {wL W W' : World} {g : Nat} {L : List P04} {ps : List PieceR} {E : Int} (h : Dr wL W g L ps E) (hb : Below W.heap.size W W') : Dr wL W' g L ps E := by
  obtain ⟨A, c, i, hg, hc, hp, hi, hps⟩ := h.rd
  exact ⟨below_step h.blw hb, h.gl, h.few, h.small, A, c, i, blk_on hg hb, hc, hp, hi, hps⟩
theorem Dr.nil {wL W : World} {g : Nat} {L : List P04} {E : Int} (h : Dr wL W g L [] E) : ∃ A c, W.heap[g]? = some (.cells #[.slice A L.length c, .int .i64 (L.length : Int), .int .i64 E] 68 (0, 0)) := by
  obtain ⟨A, c, i, hg, hc, hp, hi, hps⟩ := h.rd
  have := congrArg List.length hps
  rw [List.length_map, List.length_drop] at this
  obtain rfl : i = L.length := by simp only [List.length_nil] at this; omega
  exact ⟨A, c, hg⟩
theorem dr_cons {wL W : World} {g : Nat} {L : List P04} {ps t : List PieceR} {p : PieceR} {E : Int} (h : Dr wL W g L ps E) (hps : ps = p :: t) : ∃ (ad : Addr) (c i : Nat) (x : ByteArray), W.heap[g]? = some (.cells #[.slice (some ad) L.length c, .int .i64 (i : Int), .int .i64 E] 68 (0, 0)) ∧
    i < L.length ∧ W.cell? (ad.add (i * 2)) = some (.int .i64 p.f0) ∧ W.cell? ⟨(ad.add (i * 2)).block, (ad.add (i * 2)).off + 1, none⟩ = some (.string x) ∧ p.f1 = mk (low (bl x)) ∧ x.size ≤ 1000000 ∧ t = (L.drop (i + 1)).map lowP ∧ L.length ≤ c ∧ Kd.C k58 wL (some ad) L.length L := by
  obtain ⟨A, c, i, hg, hc, hp, hi, e⟩ := h.rd
  have hlt : i < L.length := by
    have := congrArg List.length (hps.symm.trans e)
    rw [List.length_map, List.length_drop, List.length_cons] at this
    omega
  have hd : L.drop i = L[i] :: L.drop (i + 1) := List.drop_eq_getElem_cons hlt
  rw [hps, hd, List.map_cons] at e
  injection e with e1 e2
  obtain ⟨ad, ea, x0, x1⟩ := at_T58 (Kd.C_below hp h.blw) (i : Int) (by omega) (by omega)
  subst ea
  have hr : rd_T58 L (i : Int) = L[i] := by
    unfold rd_T58
    rw [Int.toNat_natCast, List.getD_eq_getElem?_getD, List.getElem?_eq_getElem hlt]; rfl
  rw [hr, Int.toNat_natCast] at x0 x1
  exact ⟨ad, c, i, L[i].f1, hg, hlt, by rw [e1]; exact x0, x1, by rw [e1]; rfl, h.small _ (List.getElem_mem hlt), e2, hc, hp⟩
theorem sub04_calls (s : ByteArray) (hs : s.size ≤ 140737488355328) (W : World) : Calls Try.prog 70 #[.string s] W fun e W' => e = .returned (.bool (isSub (bl s))) ∧ Drawn0 W W' := by
  obtain ⟨k, hk⟩ := (ref_Sub_ev s hs).rounds
  exact r4_Sub.calls k s _ W hk
theorem here_low (x : ByteArray) (a : Int) (t : List PieceR) : hereB (⟨a, mk (low (bl x))⟩ :: t) = if isSub (bl x) = true then mk (low (bl x)) else ⟨#[]⟩ := by
  have h : okB (mk (low (bl x))) = isSub (bl x) := okB_low (bl x)
  unfold okB at h
  show (if (mk (low (bl x))).size ≤ 8 ∧ Iso.alnum (bl (mk (low (bl x)))) = true then mk (low (bl x)) else ⟨#[]⟩) = _
  rw [← h]
  by_cases c : (mk (low (bl x))).size ≤ 8 ∧ Iso.alnum (bl (mk (low (bl x)))) = true
  · rw [if_pos c, if_pos (by rw [Bool.and_eq_true, decide_eq_true_eq]; exact c)]
  · rw [if_neg c, if_neg (by rw [Bool.and_eq_true, decide_eq_true_eq]; exact c)]
set_option maxRecDepth 100000 in
set_option maxHeartbeats 1000000 in
theorem here07_calls {wL W : World} {g : Nat} {L : List P04} {ps : List PieceR} {E : Int} (h : Dr wL W g L ps E) :
    Calls Try.prog 50 #[.pointer (some ⟨g, 0, none⟩)] W fun e W' => e = .returned (.string (hereB ps)) ∧ Below W.heap.size W W' := by
  have HW := Lib.hid (Below.refl W.heap.size W)
  cases hps : ps with
  | nil =>
    subst hps
    obtain ⟨A, c, hg⟩ := h.nil
    have z0 : W.cell? ⟨g, 0, none⟩ = some (.slice A L.length c) := (blk_cell hg 0).trans rfl
    have z1 : W.cell? ⟨g, 1, none⟩ = some (.int .i64 (L.length : Int)) := (blk_cell hg 1).trans rfl
    clear hg h
    go_enter Try.func50, Try.ntmps50
    go_wp2
    repeat (go_quiet (fail); try go_wp2)
    go_ret
    refine ⟨rfl, ?_⟩
    repeat (first | (with_reducible first | exact HW.out | apply pw_below_drewN | apply below_drew1) | exact HW.out)
  | cons p t =>
    obtain ⟨ad, c, i, x, hg, hi, x0, x1, hx, hs, -⟩ := dr_cons h hps
    have z0 : W.cell? ⟨g, 0, none⟩ = some (.slice (some ad) L.length c) := (blk_cell hg 0).trans rfl
    have z1 : W.cell? ⟨g, 1, none⟩ = some (.int .i64 (i : Int)) := (blk_cell hg 1).trans rfl
    have hH : hereB (p :: t) = if isSub (bl x) = true then mk (low (bl x)) else ⟨#[]⟩ := by
      have e : p = ⟨p.f0, mk (low (bl x))⟩ := by rw [← hx]
      rw [e]
      exact here_low x p.f0 t
    obtain ⟨n, hn⟩ : ∃ n, n = L.length := ⟨_, rfl⟩
    rw [← hn] at z0 hi
    have q0 : ((n : Int) ≤ (i : Int)) = False := eq_false (by omega)
    have q1 : decide ((n : Int) ≤ (i : Int)) = false := decide_eq_false (by omega)
    have q2 : (0 : Int) ≤ (i : Int) := by omega
    have q3 : (i : Int) < (n : Int) := by omega
    have SU := Lib.hid (fun V : World => sub04_calls x (by omega) V)
    have LO := Lib.hid (fun V : World => lower02_calls x (by omega) V)
    clear h hg hps hn hx hs x0
    by_cases c2 : isSub (bl x) = true
    · rw [c2] at SU
      rw [hH, if_pos c2]
      clear hH c2
      obtain ⟨y, hy⟩ : ∃ y, y = mk (low (bl x)) := ⟨_, rfl⟩
      rw [← hy] at LO ⊢
      clear hy
      go_enter Try.func50, Try.ntmps50
      go_wp2_with (first | (go_at_call 70; refine (SU.out _).mono ?_; rintro e w2 ⟨rfl, ⟨nd, rfl⟩⟩) | (go_at_call 12; refine (LO.out _).mono ?_; rintro e w3 ⟨rfl, hb⟩; have HB3 := Lib.hid hb; clear hb))
      repeat (go_quiet (first | (go_at_call 70; refine (SU.out _).mono ?_; rintro e w2 ⟨rfl, ⟨nd, rfl⟩⟩) | (go_at_call 12; refine (LO.out _).mono ?_; rintro e w3 ⟨rfl, hb⟩; have HB3 := Lib.hid hb; clear hb)); try go_wp2_with (first | (go_at_call 70; refine (SU.out _).mono ?_; rintro e w2 ⟨rfl, ⟨nd, rfl⟩⟩) | (go_at_call 12; refine (LO.out _).mono ?_; rintro e w3 ⟨rfl, hb⟩; have HB3 := Lib.hid hb; clear hb)))
      go_ret
      refine ⟨rfl, below_step ?_ HB3.out⟩
      repeat (first | (with_reducible first | exact HW.out | apply pw_below_drewN | apply below_drew1) | exact HW.out)
    · have c3 : isSub (bl x) = false := by simpa using c2
      rw [c3] at SU
      rw [hH, if_neg c2]
      clear hH c2 c3 LO
      go_enter Try.func50, Try.ntmps50
      go_wp2_with (first | (go_at_call 70; refine (SU.out _).mono ?_; rintro e w2 ⟨rfl, ⟨nd, rfl⟩⟩))
      repeat (go_quiet (first | (go_at_call 70; refine (SU.out _).mono ?_; rintro e w2 ⟨rfl, ⟨nd, rfl⟩⟩)); try go_wp2_with (first | (go_at_call 70; refine (SU.out _).mono ?_; rintro e w2 ⟨rfl, ⟨nd, rfl⟩⟩)))
      go_ret
      refine ⟨rfl, ?_⟩
      repeat (first | (with_reducible first | exact HW.out | apply pw_below_drewN | apply below_drew1) | exact HW.out)
abbrev zGot (k a : Int) (s : ByteArray) : Value := .agg #[.string ⟨#[]⟩, .slice none 0 0, .string ⟨#[]⟩, .string ⟨#[]⟩, .slice none 0 0, .slice none 0 0, .slice none 0 0, .string ⟨#[]⟩, .int .i64 k, .int .i64 a, .string s]
theorem put11 {w : World} {g : Nat} {t : TypeId} {z0 z1 z2 z3 z4 z5 z6 z7 z8 z9 z10 : Value} (h : w.heap[g]? = some (.cells #[z0, z1, z2, z3, z4, z5, z6, z7, z8, z9, z10] t (0, 0))) (u0 u1 u2 u3 u4 u5 u6 u7 u8 u9 u10 : Value) :
    (((((((((((w.setCell ⟨g, 0, none⟩ u0).setCell ⟨g, 1, none⟩ u1).setCell ⟨g, 2, none⟩ u2).setCell ⟨g, 3, none⟩ u3).setCell ⟨g, 4, none⟩ u4).setCell ⟨g, 5, none⟩ u5).setCell ⟨g, 6, none⟩ u6).setCell ⟨g, 7, none⟩ u7).setCell ⟨g, 8, none⟩ u8).setCell ⟨g, 9, none⟩ u9).setCell ⟨g, 10, none⟩ u10).heap[g]? = some (.cells #[u0, u1, u2, u3, u4, u5, u6, u7, u8, u9, u10] t (0, 0)) := by
  have b0 := blk_put (cs' := #[u0, z1, z2, z3, z4, z5, z6, z7, z8, z9, z10]) h 0 u0 rfl
  have b1 := blk_put (cs' := #[u0, u1, z2, z3, z4, z5, z6, z7, z8, z9, z10]) b0 1 u1 rfl
  have b2 := blk_put (cs' := #[u0, u1, u2, z3, z4, z5, z6, z7, z8, z9, z10]) b1 2 u2 rfl
  have b3 := blk_put (cs' := #[u0, u1, u2, u3, z4, z5, z6, z7, z8, z9, z10]) b2 3 u3 rfl
  have b4 := blk_put (cs' := #[u0, u1, u2, u3, u4, z5, z6, z7, z8, z9, z10]) b3 4 u4 rfl
  have b5 := blk_put (cs' := #[u0, u1, u2, u3, u4, u5, z6, z7, z8, z9, z10]) b4 5 u5 rfl
  have b6 := blk_put (cs' := #[u0, u1, u2, u3, u4, u5, u6, z7, z8, z9, z10]) b5 6 u6 rfl
  have b7 := blk_put (cs' := #[u0, u1, u2, u3, u4, u5, u6, u7, z8, z9, z10]) b6 7 u7 rfl
  have b8 := blk_put (cs' := #[u0, u1, u2, u3, u4, u5, u6, u7, u8, z9, z10]) b7 8 u8 rfl
  have b9 := blk_put (cs' := #[u0, u1, u2, u3, u4, u5, u6, u7, u8, u9, z10]) b8 9 u9 rfl
  have b10 := blk_put (cs' := #[u0, u1, u2, u3, u4, u5, u6, u7, u8, u9, u10]) b9 10 u10 rfl
  exact b10
theorem below11 {w0 w : World} {n g : Nat} (h : Below n w0 w) (hg : n ≤ g) (u0 u1 u2 u3 u4 u5 u6 u7 u8 u9 u10 : Value) : Below n w0 (((((((((((w.setCell ⟨g, 0, none⟩ u0).setCell ⟨g, 1, none⟩ u1).setCell ⟨g, 2, none⟩ u2).setCell ⟨g, 3, none⟩ u3).setCell ⟨g, 4, none⟩ u4).setCell ⟨g, 5, none⟩ u5).setCell ⟨g, 6, none⟩ u6).setCell ⟨g, 7, none⟩ u7).setCell ⟨g, 8, none⟩ u8).setCell ⟨g, 9, none⟩ u9).setCell ⟨g, 10, none⟩ u10) :=
  ((((((((((h.setCell (p := ⟨g, 0, none⟩) hg u0).setCell (p := ⟨g, 1, none⟩) hg u1).setCell (p := ⟨g, 2, none⟩) hg u2).setCell (p := ⟨g, 3, none⟩) hg u3).setCell (p := ⟨g, 4, none⟩) hg u4).setCell (p := ⟨g, 5, none⟩) hg u5).setCell (p := ⟨g, 6, none⟩) hg u6).setCell (p := ⟨g, 7, none⟩) hg u7).setCell (p := ⟨g, 8, none⟩) hg u8).setCell (p := ⟨g, 9, none⟩) hg u9).setCell (p := ⟨g, 10, none⟩) hg u10
def dw3_T : Bool × List (List Nat × List Nat) := (true, [([], []), ([0], [0]), ([1], [1]), ([2], [2]), ([], []), ([4], [4]), ([5], [5]), ([6], [6]), ([3, 7], [3, 7]), ([8], [8]), ([9], [9]), ([10], [10]), ([11, 0, 1, 2, 3, 4, 5, 6, 7, 8, 9, 10, 11], [11])])
def dw3_B : List Nat := [0, 1, 3, 7, 0, 16, 48, 112, 255, 511, 1023, 2047, 4095]
theorem dw3_tab : rtab .any (opsOf Try.f51 3) = dw3_T := by kernel_rfl
theorem dw3_bits : waitsOk dw3_T.2 dw3_B = true := by kernel_rfl
def dt1_T : Bool × List (List Nat × List Nat) := (true, [([], []), ([0], [0]), ([1], [1]), ([2], [2]), ([], []), ([4], [4]), ([5], [5]), ([6], [6]), ([3, 7], [3, 7]), ([8], [8]), ([9], [9]), ([], []), ([10, 11], [10, 11]), ([12, 0, 1, 2, 3, 4, 5, 6, 7, 8, 9, 10, 11, 12], [12])])
def dt1_B : List Nat := [0, 1, 3, 7, 0, 16, 48, 112, 255, 511, 1023, 0, 4095, 8191]
theorem dt1_tab : rtab .any (opsOf Try.f53 1) = dt1_T := by kernel_rfl
theorem dt1_bits : waitsOk dt1_T.2 dt1_B = true := by kernel_rfl
set_option maxRecDepth 100000 in
set_option maxHeartbeats 1000000 in
theorem wrong07_calls {wL W : World} {g : Nat} {L : List P04} {ps : List PieceR} {E : Int} (h : Dr wL W g L ps E) :
    Calls Try.prog 51 #[.pointer (some ⟨g, 0, none⟩)] W fun e W' => e = .returned (zGot 10 (stopE E ps).1 (stopE E ps).2) ∧ Below W.heap.size W W' := by
  have HW := Lib.hid (below_alloc (Below.refl W.heap.size W) (.cells #[.string ⟨#[]⟩, .slice none 0 0, .string ⟨#[]⟩, .string ⟨#[]⟩, .slice none 0 0, .slice none 0 0, .slice none 0 0, .string ⟨#[]⟩, .int .i64 0, .int .i64 0, .string ⟨#[]⟩] 40))
  cases hps : ps with
  | nil =>
    subst hps
    obtain ⟨A, c, hg⟩ := h.nil
    have K := blk_on hg (below_alloc (Below.refl _ W) (.cells #[.string ⟨#[]⟩, .slice none 0 0, .string ⟨#[]⟩, .string ⟨#[]⟩, .slice none 0 0, .slice none 0 0, .slice none 0 0, .string ⟨#[]⟩, .int .i64 0, .int .i64 0, .string ⟨#[]⟩] 40))
    have z0 : (W.alloc (.cells #[.string ⟨#[]⟩, .slice none 0 0, .string ⟨#[]⟩, .string ⟨#[]⟩, .slice none 0 0, .slice none 0 0, .slice none 0 0, .string ⟨#[]⟩, .int .i64 0, .int .i64 0, .string ⟨#[]⟩] 40)).cell? ⟨g, 0, none⟩ = some (.slice A L.length c) := (blk_cell K 0).trans rfl
    have z1 : (W.alloc (.cells #[.string ⟨#[]⟩, .slice none 0 0, .string ⟨#[]⟩, .string ⟨#[]⟩, .slice none 0 0, .slice none 0 0, .slice none 0 0, .string ⟨#[]⟩, .int .i64 0, .int .i64 0, .string ⟨#[]⟩] 40)).cell? ⟨g, 1, none⟩ = some (.int .i64 (L.length : Int)) := (blk_cell K 1).trans rfl
    have z2 : (W.alloc (.cells #[.string ⟨#[]⟩, .slice none 0 0, .string ⟨#[]⟩, .string ⟨#[]⟩, .slice none 0 0, .slice none 0 0, .slice none 0 0, .string ⟨#[]⟩, .int .i64 0, .int .i64 0, .string ⟨#[]⟩] 40)).cell? ⟨g, 2, none⟩ = some (.int .i64 E) := (blk_cell K 2).trans rfl
    clear hg h K
    go_enter Try.func51, Try.ntmps51
    go_wp2
    repeat (go_quiet (fail); try go_wp2)
    refine bodyPost_ret (results_cell_row rfl _ _ W.heap.size 40 #[.string ⟨#[]⟩, .slice none 0 0, .string ⟨#[]⟩, .string ⟨#[]⟩, .slice none 0 0, .slice none 0 0, .slice none 0 0, .string ⟨#[]⟩, .int .i64 10, .int .i64 E, .string ⟨#[101, 110, 100]⟩] (0, 0) _ rfl (put11 (blk_on (new_blk W (.cells #[.string ⟨#[]⟩, .slice none 0 0, .string ⟨#[]⟩, .string ⟨#[]⟩, .slice none 0 0, .slice none 0 0, .slice none 0 0, .string ⟨#[]⟩, .int .i64 0, .int .i64 0, .string ⟨#[]⟩] 40)) (pw_below_drewN (Below.refl _ _) _)) _ _ _ _ _ _ _ _ _ _ _) Try.underlying40 rfl (by kernel_rfl)) rfl ?_
    exact ⟨rfl, below11 (pw_below_drewN HW.out _) (Nat.le_refl _) _ _ _ _ _ _ _ _ _ _ _⟩
  | cons p t =>
    obtain ⟨ad, c, i, x, hg, hi, x0, x1, hx, hs, -⟩ := dr_cons h hps
    have K := blk_on hg (below_alloc (Below.refl _ W) (.cells #[.string ⟨#[]⟩, .slice none 0 0, .string ⟨#[]⟩, .string ⟨#[]⟩, .slice none 0 0, .slice none 0 0, .slice none 0 0, .string ⟨#[]⟩, .int .i64 0, .int .i64 0, .string ⟨#[]⟩] 40))
    have z0 : (W.alloc (.cells #[.string ⟨#[]⟩, .slice none 0 0, .string ⟨#[]⟩, .string ⟨#[]⟩, .slice none 0 0, .slice none 0 0, .slice none 0 0, .string ⟨#[]⟩, .int .i64 0, .int .i64 0, .string ⟨#[]⟩] 40)).cell? ⟨g, 0, none⟩ = some (.slice (some ad) L.length c) := (blk_cell K 0).trans rfl
    have z1 : (W.alloc (.cells #[.string ⟨#[]⟩, .slice none 0 0, .string ⟨#[]⟩, .string ⟨#[]⟩, .slice none 0 0, .slice none 0 0, .slice none 0 0, .string ⟨#[]⟩, .int .i64 0, .int .i64 0, .string ⟨#[]⟩] 40)).cell? ⟨g, 1, none⟩ = some (.int .i64 (i : Int)) := (blk_cell K 1).trans rfl
    have y0 : (W.alloc (.cells #[.string ⟨#[]⟩, .slice none 0 0, .string ⟨#[]⟩, .string ⟨#[]⟩, .slice none 0 0, .slice none 0 0, .slice none 0 0, .string ⟨#[]⟩, .int .i64 0, .int .i64 0, .string ⟨#[]⟩] 40)).cell? (ad.add (i * 2)) = some (.int .i64 p.f0) := pw_cell_below (below_alloc (Below.refl _ W) (.cells #[.string ⟨#[]⟩, .slice none 0 0, .string ⟨#[]⟩, .string ⟨#[]⟩, .slice none 0 0, .slice none 0 0, .slice none 0 0, .string ⟨#[]⟩, .int .i64 0, .int .i64 0, .string ⟨#[]⟩] 40)) x0
    obtain ⟨n, hn⟩ : ∃ n, n = L.length := ⟨_, rfl⟩
    obtain ⟨a, ha⟩ : ∃ a, a = p.f0 := ⟨_, rfl⟩
    rw [← hn] at z0 hi
    rw [← ha] at y0
    have q1 : decide ((n : Int) ≤ (i : Int)) = false := decide_eq_false (by omega)
    have q2 : (0 : Int) ≤ (i : Int) := by omega
    have q3 : (i : Int) < (n : Int) := by omega
    clear h hg K hn hx hs x0 x1
    rw [show stopE E (p :: t) = (a, ⟨#[115, 117, 98, 116, 97, 103]⟩) from by rw [ha]; rfl]
    clear ha
    go_enter Try.func51, Try.ntmps51
    go_upto_region 1 with (fail)
    go_quiet (fail)
    go_upto_region 3 with (fail)
    refine start_ (n := 13) (S := fun w' => w'.cell? ⟨g, 0, none⟩ = some (.slice (some ad) n c) ∧ w'.cell? ⟨g, 1, none⟩ = some (.int .i64 (i : Int)) ∧ w'.cell? (ad.add (i * 2)) = some (.int .i64 a)) (ds := [12]) #[false, false, false, false, false, false, false, false, false, false, false, false, false] (by kernel_rfl) rfl rfl ⟨z0, z1, y0⟩ (fun hHeld => ?_); refine with_tabW dw3_tab dw3_bits (fun HT_ HW_ => ?_)
    refine pu_ (i := 0) (N := some 18) HT_ (bl_ 13 1) ?_
    refine pu_ (i := 1) (N := some 19) HT_ (bl_ 13 3) ?_
    refine pu_ (i := 2) (N := some 20) HT_ (bl_ 13 7) ?_
    refine tk_ (i := 3) (N := some 21) HT_ HW_ (bl_ 13 15) hHeld ?_ (hy := by rintro w' ⟨s0, s1, s2⟩; go_simp; with_reducible rfl)
    refine pu_ (i := 4) (N := some 22) HT_ (bl_ 13 31) ?_
    refine pu_ (i := 5) (N := some 23) HT_ (bl_ 13 63) ?_
    refine pu_ (i := 6) (N := some 24) HT_ (bl_ 13 127) ?_
    refine tk_ (i := 7) (N := some 25) HT_ HW_ (bl_ 13 255) hHeld ?_ (hy := by rintro w' ⟨s0, s1, s2⟩; go_simp; with_reducible rfl)
    refine pu_ (i := 8) (N := some 26) HT_ (bl_ 13 511) ?_
    refine pu_ (i := 9) (N := some 27) HT_ (bl_ 13 1023) ?_
    refine tk_ (i := 10) (N := some 28) HT_ HW_ (bl_ 13 2047) hHeld ?_ (hy := by rintro w' ⟨s0, s1, s2⟩; go_simp; with_reducible rfl)
    refine pu_ (i := 11) (N := some 29) HT_ (bl_ 13 4095) ?_
    refine last_ (i := 12) (N := none) #[true, true, true, true, true, true, true, true, true, true, true, true, true] rfl rfl (one_of HT_.out (by kernel_rfl)) (by decide) (fun K hK => ?_)
    refine skip_ (w1 := ?_) (by rfl) rfl ?_ ?_
    rotate_left
    · go_simp
      rfl
    refine hK.out _ _ ?_
    clear hK K
    refine done_ (done_of HT_.out (by kernel_rfl)) ?_
    go_wp2
    refine bodyPost_ret (results_cell_row rfl _ _ W.heap.size 40 #[.string ⟨#[]⟩, .slice none 0 0, .string ⟨#[]⟩, .string ⟨#[]⟩, .slice none 0 0, .slice none 0 0, .slice none 0 0, .string ⟨#[]⟩, .int .i64 10, .int .i64 a, .string ⟨#[115, 117, 98, 116, 97, 103]⟩] (0, 0) _ rfl (put11 (blk_on (new_blk W (.cells #[.string ⟨#[]⟩, .slice none 0 0, .string ⟨#[]⟩, .string ⟨#[]⟩, .slice none 0 0, .slice none 0 0, .slice none 0 0, .string ⟨#[]⟩, .int .i64 0, .int .i64 0, .string ⟨#[]⟩] 40)) (below_drew (pw_below_drewN (Below.refl _ _) _))) _ _ _ _ _ _ _ _ _ _ _) Try.underlying40 rfl (by kernel_rfl)) rfl ?_
    exact ⟨rfl, below11 (below_drew (pw_below_drewN HW.out _)) (Nat.le_refl _) _ _ _ _ _ _ _ _ _ _ _⟩
set_option maxRecDepth 100000 in
set_option maxHeartbeats 1000000 in
theorem twice07_calls {wL W : World} {g : Nat} {L : List P04} {ps t : List PieceR} {p : PieceR} {E : Int} (h : Dr wL W g L ps E) (hps : ps = p :: t) (what : ByteArray) :
    Calls Try.prog 53 #[.pointer (some ⟨g, 0, none⟩), .string what] W fun e W' => e = .returned (zGot 11 p.f0 what) ∧ Below W.heap.size W W' := by
  have HW := Lib.hid (below_alloc (Below.refl W.heap.size W) (.cells #[.string ⟨#[]⟩, .slice none 0 0, .string ⟨#[]⟩, .string ⟨#[]⟩, .slice none 0 0, .slice none 0 0, .slice none 0 0, .string ⟨#[]⟩, .int .i64 0, .int .i64 0, .string ⟨#[]⟩] 40))
  obtain ⟨ad, c, i, x, hg, hi, x0, x1, hx, hs, -⟩ := dr_cons h hps
  have K := blk_on hg (below_alloc (Below.refl _ W) (.cells #[.string ⟨#[]⟩, .slice none 0 0, .string ⟨#[]⟩, .string ⟨#[]⟩, .slice none 0 0, .slice none 0 0, .slice none 0 0, .string ⟨#[]⟩, .int .i64 0, .int .i64 0, .string ⟨#[]⟩] 40))
  have z0 : (W.alloc (.cells #[.string ⟨#[]⟩, .slice none 0 0, .string ⟨#[]⟩, .string ⟨#[]⟩, .slice none 0 0, .slice none 0 0, .slice none 0 0, .string ⟨#[]⟩, .int .i64 0, .int .i64 0, .string ⟨#[]⟩] 40)).cell? ⟨g, 0, none⟩ = some (.slice (some ad) L.length c) := (blk_cell K 0).trans rfl
  have z1 : (W.alloc (.cells #[.string ⟨#[]⟩, .slice none 0 0, .string ⟨#[]⟩, .string ⟨#[]⟩, .slice none 0 0, .slice none 0 0, .slice none 0 0, .string ⟨#[]⟩, .int .i64 0, .int .i64 0, .string ⟨#[]⟩] 40)).cell? ⟨g, 1, none⟩ = some (.int .i64 (i : Int)) := (blk_cell K 1).trans rfl
  have y0 : (W.alloc (.cells #[.string ⟨#[]⟩, .slice none 0 0, .string ⟨#[]⟩, .string ⟨#[]⟩, .slice none 0 0, .slice none 0 0, .slice none 0 0, .string ⟨#[]⟩, .int .i64 0, .int .i64 0, .string ⟨#[]⟩] 40)).cell? (ad.add (i * 2)) = some (.int .i64 p.f0) := pw_cell_below (below_alloc (Below.refl _ W) (.cells #[.string ⟨#[]⟩, .slice none 0 0, .string ⟨#[]⟩, .string ⟨#[]⟩, .slice none 0 0, .slice none 0 0, .slice none 0 0, .string ⟨#[]⟩, .int .i64 0, .int .i64 0, .string ⟨#[]⟩] 40)) x0
  obtain ⟨n, hn⟩ : ∃ n, n = L.length := ⟨_, rfl⟩
  obtain ⟨a, ha⟩ : ∃ a, a = p.f0 := ⟨_, rfl⟩
  rw [← hn] at z0 hi
  rw [← ha] at y0
  have q1 : decide ((n : Int) ≤ (i : Int)) = false := decide_eq_false (by omega)
  have q2 : (0 : Int) ≤ (i : Int) := by omega
  have q3 : (i : Int) < (n : Int) := by omega
  clear h hg K hn hx hs x0 x1
  rw [← ha]
  clear ha
  go_enter Try.func53, Try.ntmps53
  go_upto_region 1 with (fail)
  refine start_ (n := 14) (S := fun w' => w'.cell? ⟨g, 0, none⟩ = some (.slice (some ad) n c) ∧ w'.cell? ⟨g, 1, none⟩ = some (.int .i64 (i : Int)) ∧ w'.cell? (ad.add (i * 2)) = some (.int .i64 a)) (ds := [13]) #[false, false, false, false, false, false, false, false, false, false, false, false, false, false] (by kernel_rfl) rfl rfl ⟨z0, z1, y0⟩ (fun hHeld => ?_); refine with_tabW dt1_tab dt1_bits (fun HT_ HW_ => ?_)
  refine pu_ (i := 0) (N := some 5) HT_ (bl_ 14 1) ?_
  refine pu_ (i := 1) (N := some 6) HT_ (bl_ 14 3) ?_
  refine pu_ (i := 2) (N := some 7) HT_ (bl_ 14 7) ?_
  refine tk_ (i := 3) (N := some 8) HT_ HW_ (bl_ 14 15) hHeld ?_ (hy := by rintro w' ⟨s0, s1, s2⟩; go_simp; with_reducible rfl)
  refine pu_ (i := 4) (N := some 9) HT_ (bl_ 14 31) ?_
  refine pu_ (i := 5) (N := some 10) HT_ (bl_ 14 63) ?_
  refine pu_ (i := 6) (N := some 11) HT_ (bl_ 14 127) ?_
  refine tk_ (i := 7) (N := some 12) HT_ HW_ (bl_ 14 255) hHeld ?_ (hy := by rintro w' ⟨s0, s1, s2⟩; go_simp; with_reducible rfl)
  refine pu_ (i := 8) (N := some 13) HT_ (bl_ 14 511) ?_
  refine pu_ (i := 9) (N := some 14) HT_ (bl_ 14 1023) ?_
  refine tk_ (i := 10) (N := some 15) HT_ HW_ (bl_ 14 2047) hHeld ?_ (hy := by rintro w' ⟨s0, s1, s2⟩; go_simp; with_reducible rfl)
  refine pu_ (i := 11) (N := some 16) HT_ (bl_ 14 4095) ?_
  refine pu_ (i := 12) (N := some 17) HT_ (bl_ 14 8191) ?_
  refine last_ (i := 13) (N := none) #[true, true, true, true, true, true, true, true, true, true, true, true, true, true] rfl rfl (one_of HT_.out (by kernel_rfl)) (by decide) (fun K hK => ?_)
  refine skip_ (w1 := ?_) (by rfl) rfl ?_ ?_
  rotate_left
  · go_simp
    rfl
  refine hK.out _ _ ?_
  clear hK K
  refine done_ (done_of HT_.out (by kernel_rfl)) ?_
  go_wp2
  refine bodyPost_ret (results_cell_row rfl _ _ W.heap.size 40 #[.string ⟨#[]⟩, .slice none 0 0, .string ⟨#[]⟩, .string ⟨#[]⟩, .slice none 0 0, .slice none 0 0, .slice none 0 0, .string ⟨#[]⟩, .int .i64 11, .int .i64 a, .string what] (0, 0) _ rfl (blk_on (new_blk W (.cells #[.string ⟨#[]⟩, .slice none 0 0, .string ⟨#[]⟩, .string ⟨#[]⟩, .slice none 0 0, .slice none 0 0, .slice none 0 0, .string ⟨#[]⟩, .int .i64 11, .int .i64 a, .string what] 40)) (below_drew (Below.refl _ _))) Try.underlying40 rfl (by kernel_rfl)) rfl ?_
  exact ⟨rfl, below_drew (below_alloc (Below.refl _ _) _)⟩
end Go.Proofs.Ytojglflamecnkaa.P
