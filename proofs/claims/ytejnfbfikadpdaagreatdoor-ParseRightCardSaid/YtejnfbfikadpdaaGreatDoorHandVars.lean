/- variants of parse's reader, walked. -/
import Derived.Test.YtejnfbfikadpdaaGreatDoorSq
import Derived.Test.YtejnfbfikadpdaaGreatDoorHandLang
import Derived.Test.YtejnfbfikadpdaaGreatDoorPx5
import Derived.Test.YtejnfbfikadpdaaGreatDoorPx5
namespace Go.Proofs.YtejnfbfikadpdaaGreatDoor.P
open Go.RowKit Go.Shelf Go.Proofs.YtejnfbfikadpdaaGreatDoorW.PrintWords Go.Proofs.YtejnfbfikadpdaaGreatDoorW.PrintLast Go.Proofs.YtejnfbfikadpdaaGreatDoorW.PrintMore Go.Proofs.YtejnfbfikadpdaaGreatDoor.Iso
set_option linter.unusedVariables false
set_option linter.unusedSimpArgs false
attribute [local go_sem] Oper.semAt_some
theorem so_Variant : SoIs 119 (fun s => Iso.isVar (bl s)) := fun s hs W => by
  obtain ⟨k, hk⟩ := (tag_Variant_ev s (by omega)).rounds
  exact tag_Variant.calls k s _ W hk
theorem index_ev (l : List ByteArray) (a : ByteArray) (hn : l.length ≤ 1000000) : ∀ (j i : Nat), i + j = l.length → ∃ r : Int, Ev (fun k => slices_Index_string_string.l0 k l a (l.length : Int) (i : Int)) r ∧ decide (r ≥ 0) = decide (bl a ∈ (l.drop i).map bl)
  | 0, i, h => by
    refine ⟨-1, Ev.succ ?_, ?_⟩
    · have q1 : ¬ ((i : Int) < (l.length : Int)) := by omega
      simp only [slices_Index_string_string.l0, if_neg q1]
      exact Ev.now _
    · rw [List.drop_eq_nil_of_le (by omega)]
      simp
  | j + 1, i, h => by
    have hi : i < l.length := by omega
    have hr : rdOf ByteArray.empty l (i : Int) = l[i] := by
      unfold rdOf
      rw [Int.toNat_natCast, List.getD_eq_getElem?_getD, List.getElem?_eq_getElem hi]; rfl
    have hd : l.drop i = l[i] :: l.drop (i + 1) := List.drop_eq_getElem_cons hi
    have q1 : (i : Int) < (l.length : Int) := by omega
    have q2 : (0 : Int) ≤ (i : Int) := by omega
    by_cases c : a.toList = l[i].toList
    · refine ⟨i, Ev.succ ?_, ?_⟩
      · simp only [slices_Index_string_string.l0, if_pos q1, if_pos q2, hr, if_pos c]
        exact Ev.now _
      · rw [hd, List.map_cons, ba_same.1 c, decide_eq_true (List.mem_cons_self), decide_eq_true (by omega)]
    · obtain ⟨r, hv, hd2⟩ := index_ev l a hn j (i + 1) (by omega)
      refine ⟨r, Ev.succ ?_, ?_⟩
      · have e : wrap64 ((i : Int) + 1) = ((i + 1 : Nat) : Int) := by unfold wrap64; omega
        simp only [slices_Index_string_string.l0, if_pos q1, if_pos q2, hr, if_neg c, e]
        exact hv
      · rw [hd2, hd]
        have hne : ¬ (bl a = bl l[i]) := fun e => c (by rw [bl_inj e])
        rw [List.map_cons]
        refine decide_eq_decide.2 ⟨fun h => List.mem_cons_of_mem _ h, fun h => ?_⟩
        rcases List.mem_cons.1 h with h | h
        · exact absurd h hne
        · exact h
theorem contains_calls (A : Option Addr) (c : Nat) (l : List ByteArray) (a : ByteArray) (W : World) (hC : Kd.C Kd.string W A l.length l) (hc : l.length ≤ c) (hn : l.length ≤ 1000000) :
    Calls Tryz.prog 121 #[.slice A l.length c, .string a] W fun e W' => e = .returned (.bool (decide (bl a ∈ l.map bl))) ∧ Drawn0 W W' := by
  obtain ⟨r, hv, hd⟩ := index_ev l a hn l.length 0 (by omega)
  obtain ⟨k, hk⟩ := hv.rounds
  rw [List.drop_zero] at hd
  refine slices_Contains_string_string.calls k A c l a _ W hC hc ?_
  unfold slices_Contains_string_string.f slices_Index_string_string.f
  rw [show slices_Index_string_string.l0 k l a (l.length : Int) 0 = some r from hk]
  show some (decide (r ≥ 0)) = _
  rw [hd]
def varR : List ByteArray → List PieceR → List ByteArray × List PieceR × Bool
  | acc, [] => (acc, [], false)
  | acc, p :: t => if oneB (fun s => Iso.isVar (bl s)) (p :: t) then (if bl (hereB (p :: t)) ∈ acc.map bl then (acc, p :: t, true) else varR (acc ++ [hereB (p :: t)]) t) else (acc, p :: t, false)
def atOf : List PieceR → Int
  | [] => 0
  | p :: _ => p.f0
theorem varR_no {acc : List ByteArray} {ps : List PieceR} (h : oneB (fun s => Iso.isVar (bl s)) ps = false) : varR acc ps = (acc, ps, false) := by
  cases ps with
  | nil => rfl
  | cons p t => rw [varR, if_neg (by rw [h]; decide)]
structure VaAt (w0 wp W wr : World) (g : Nat) (ps0 ps : List PieceR) (E : Int) (T : TG) (v1 u v5 v6 : Value) (acc : List ByteArray) : Prop where
  rd : Rd w0 wp wr g ps E { T with vars := acc } v1 u v5 v6
  le : W.heap.size ≤ wr.heap.size
  l : varR [] ps0 = varR acc ps
  n : acc.length + ps.length ≤ ps0.length
def VarsSaid (w0 wp W : World) (g : Nat) (ps : List PieceR) (E : Int) (T : TG) (v1 v5 v6 : Value) (e : Ending) (W' : World) : Prop :=
  ((varR [] ps).2.2 = false ∧ ∃ u, e = .returned (.tuple #[]) ∧ Rd w0 wp W' g (varR [] ps).2.1 E { T with vars := (varR [] ps).1 } v1 u v5 v6) ∨
  ((varR [] ps).2.2 = true ∧ Bad g W 11 (atOf (varR [] ps).2.1) ⟨#[118, 97, 114, 105, 97, 110, 116]⟩ e W' ∧ BadK w0 wp g W')
def va1_T : Bool × List (List Nat × List Nat) := (true, [([], []), ([], []), ([1], [1]), ([2], [2]), ([3], [3]), ([4], [4]), ([], []), ([6], [6]), ([5, 7, 7], [5, 7]), ([0, 8, 8], [0, 8])])
def va1_B : List Nat := [0, 0, 2, 6, 14, 30, 0, 64, 254, 511]
theorem va1_tab : rtab .any (opsOf Tryz.f81 1) = va1_T := by kernel_rfl
theorem va1_bits : waitsOk va1_T.2 va1_B = true := by kernel_rfl
def va2_T : Bool × List (List Nat × List Nat) := (true, [([], []), ([], []), ([1], [1]), ([2], [2]), ([3], [3]), ([4], [4]), ([], []), ([6], [6]), ([7], [7]), ([5, 8, 7], [5, 8]), ([0, 0, 1, 2, 3, 4, 5, 6, 7, 8, 9], [0]), ([10, 0, 1, 2, 3, 4, 5, 6, 7, 8, 9], [10]), ([11, 0, 1, 2, 3, 4, 5, 6, 7, 8, 9], [11]), ([12, 9, 9, 0, 1, 2, 3, 4, 5, 6, 7, 8, 9], [9, 12])])
def va2_B : List Nat := [0, 0, 2, 6, 14, 30, 0, 64, 192, 510, 1023, 2047, 4095, 8191]
theorem va2_tab : rtab .any (opsOf Tryz.f81 2) = va2_T := by kernel_rfl
theorem va2_bits : waitsOk va2_T.2 va2_B = true := by kernel_rfl
set_option maxRecDepth 100000 in
set_option maxHeartbeats 4000000 in
theorem variants_calls {w0 wp W : World} {g : Nat} {ps : List PieceR} {E : Int} {T : TG} {v1 v5 v6 : Value} (h : Rd w0 wp W g ps E T v1 (.slice none 0 0) v5 v6) (hx : T.vars = []) (hn : ps.length ≤ 1000000) :
    Calls Tryz.prog 81 #[.pointer (some ⟨g, 0, none⟩)] W fun e W' => VarsSaid w0 wp W g ps E T v1 v5 v6 e W' := by
  have HN := Lib.hid hn
  have L0 := Lib.hid (show VaAt w0 wp W W g ps ps E T v1 (.slice none 0 0) v5 v6 [] from ⟨by rwa [show T = { T with vars := [] } by rw [← hx]] at h, Nat.le_refl _, rfl, by simp⟩)
  clear h hx hn
  go_enter Tryz.func81, Tryz.ntmps81
  go_wp2
  go_loopw [] (fun wr => ∃ (ps' : List PieceR) (acc : List ByteArray) (u : Value), Hid (VaAt w0 wp W wr g ps ps' E T v1 u v5 v6 acc)) (fun wr => leftAt wr g)
  case atStart => exact ⟨ps, [], _, L0⟩
  case round =>
    clear L0
    obtain ⟨ps', acc, u, hR⟩ := hrel
    obtain ⟨A, d, hu⟩ := Kd.R_slice hR.out.rd.own.2.1
    replace hu : u = .slice A acc.length d := hu
    subst hu
    by_cases c : (hereB ps').toList.isEmpty = true
    · have HS := Lib.hid (here_none c).symm
      have HO := Lib.hid (show oneB (fun s => Iso.isVar (bl s)) ps' = false by unfold oneB; rw [c]; rfl)
      clear c
      go_wp2_with (first | (go_at_call 76; refine (here_calls (by first | exact hR.out.rd | exact hR.out.rd.drewN _)).mono ?_; rw [← HS.out]; rintro e w2 ⟨rfl, ⟨nd, rfl⟩⟩) | (go_at_call 119; refine (HX.out _).mono ?_; rintro e w2 ⟨rfl, ⟨nd, rfl⟩⟩))
      go_end0
      have l0 := hR.out.l
      rw [varR_no HO.out] at l0
      refine Or.inl ⟨by rw [l0], .slice A acc.length d, rfl, ?_⟩
      rw [l0]
      exact hR.out.rd.drewN _
    · have c1 : (hereB ps').toList.isEmpty = false := by simpa using c
      obtain ⟨p, t, hps, h1, h2, h3⟩ := here_ne c1
      have HP := Lib.hid hps
      have HX0 := so_Variant (hereB ps') (here_size ps')
      dsimp only at HX0
      have HX := Lib.hid HX0
      clear HX0
      obtain ⟨x, hx⟩ : ∃ x, x = hereB ps' := ⟨_, rfl⟩
      have HS := Lib.hid hx
      have hn : ¬ (x.toList = ([] : List UInt8)) := by rw [hx]; exact fun e => by rw [e] at c1; cases c1
      have hn1 : (x.toList == ([] : List UInt8)) = false := beq_eq_false_iff_ne.2 hn
      have hn2 : (x.toList != ([] : List UInt8)) = true := bne_iff_ne.2 hn
      rw [← hx] at c1 HX
      have hn3 : (!x.toList.isEmpty) = true := by rw [c1]; rfl
      by_cases hv : Iso.isVar (bl x) = true
      · have HO := Lib.hid (show oneB (fun s => Iso.isVar (bl s)) ps' = true by unfold oneB; rw [← hx, c1]; show (!false && Iso.isVar (bl x)) = true; rw [hv]; rfl)
        rw [hv] at HX
        have hAC : acc.length ≤ 1000000 := by have := hR.out.n; have := HN.out; omega
        have HAC := Lib.hid hAC
        have HAD := Lib.hid (Kd.R_reads' hR.out.rd.own.2.1).2.1
        obtain ⟨A0, c0, hgr, _, _⟩ := hR.out.rd.cells
        obtain ⟨y, hy⟩ : ∃ y, y = acc ++ [x] := ⟨_, rfl⟩
        have HL := Lib.hid hy
        by_cases hm : bl x ∈ acc.map bl
        · have HM := Lib.hid (show decide (bl x ∈ acc.map bl) = true from decide_eq_true hm)
          have HMM := Lib.hid hm
          clear c h1 h2 h3 hps hx hv hAC hy hm
          go_wp2_with (first | (go_at_call 76; refine (here_calls (by first | exact hR.out.rd | exact hR.out.rd.drewN _)).mono ?_; rw [← HS.out]; rintro e w2 ⟨rfl, ⟨nd, rfl⟩⟩) | (go_at_call 119; refine (HX.out _).mono ?_; rintro e w2 ⟨rfl, ⟨nd, rfl⟩⟩))
          refine start_ (n := 10) (S := fun w' => w'.cell? ⟨g, 6, none⟩ = some (.slice A acc.length d)) (ds := []) #[false, false, false, false, false, false, false, false, false, false] (by kernel_rfl) rfl rfl (show World.cell? _ ⟨g, 6, none⟩ = some _ from (blk_cell hgr 6).trans rfl) (fun hHeld => ?_); refine with_tabW va1_tab va1_bits (fun HT_ HW_ => ?_)
          refine pu_ (i := 0) (N := some 10) HT_ (bl_ 10 1) ?_
          refine pu_ (i := 1) (N := some 11) HT_ (bl_ 10 3) ?_
          refine pu_ (i := 2) (N := some 12) HT_ (bl_ 10 7) ?_
          refine pu_ (i := 3) (N := some 13) HT_ (bl_ 10 15) ?_
          refine pu_ (i := 4) (N := some 14) HT_ (bl_ 10 31) ?_
          refine pu_ (i := 6) (N := some 16) HT_ (bl_ 10 95) ?_
          refine tk_ (i := 5) (N := some 15) HT_ HW_ (bl_ 10 127) hHeld ?_ (hy := by rintro w' s0; go_simp; with_reducible rfl)
          refine on_ (i := 7) (N := some 17) HT_ (bl_ 10 255) rfl rfl (fun K hK => ?_)
          refine gs_ Tryz.func76 #[.pointer (some ⟨g, 0, none⟩)] ?_
          refine (here_calls (Rd.step (hR.out.rd.drewN _) (below_drew (Below.refl _ _)))).mono ?_
          rw [← HS.out]
          rintro e w2 ⟨rfl, ⟨nd2, rfl⟩⟩
          refine ⟨_, rfl, ?_⟩
          refine hK.out _ _ (show World.cell? _ ⟨g, 6, none⟩ = some _ from (blk_cell hgr 6).trans rfl) (fun hHeld => ?_)
          clear hK K
          refine nm_ (some 17) ?_
          refine on_ (i := 8) (N := some 18) HT_ (bl_ 10 511) rfl rfl (fun K hK => ?_)
          refine gs_ Tryz.func121 #[.slice A acc.length d, .string x] ?_
          refine (contains_calls A d acc x _ (Kd.R_reads' (Rd.drewN (Rd.step (hR.out.rd.drewN _) (below_drew (Below.refl _ _))) _).own.2.1).2.2 HAD.out HAC.out).mono ?_
          rw [HM.out]
          rintro e w2 ⟨rfl, ⟨nd3, rfl⟩⟩
          refine ⟨_, rfl, ?_⟩
          refine hK.out _ _ (show World.cell? _ ⟨g, 6, none⟩ = some _ from (blk_cell hgr 6).trans rfl) (fun hHeld => ?_)
          clear hK K
          refine nm_ (some 18) ?_
          refine on_ (i := 9) (N := some 19) HT_ (bl_ 10 1023) rfl rfl (fun K hK => ?_)
          refine goesX_ Tryz.func120 (by kernel_rfl) rfl #[.pointer (some ⟨g, 0, none⟩), .bool true, .string ⟨#[118, 97, 114, 105, 97, 110, 116]⟩] (by rfl) rfl rfl (by simp only [List.map_toArray, List.map_cons, List.map_nil]; rfl) ?_
          refine (twice_yes (Rd.drewN (Rd.drewN (Rd.step (hR.out.rd.drewN _) (below_drew (Below.refl _ _))) _) _) HP.out _).mono ?_
          rintro e w2 ⟨⟨B, rfl, hF, hB⟩, hb⟩
          have hbb := (Rd.drewN (Rd.drewN (Rd.step (hR.out.rd.drewN _) (below_drew (Below.refl _ _))) _) _).badK hb
          refine Or.inr ⟨_, rfl, ?_⟩
          have l0 := hR.out.l
          rw [HP.out, varR, ← HP.out, if_pos HO.out, ← HS.out, if_pos HMM.out] at l0
          refine ⟨rfl, Or.inr ⟨by rw [l0], ?_, hbb⟩⟩
          rw [l0]
          refine ⟨B, rfl, by rw [HP.out]; exact hF, ?_⟩
          exact Nat.le_trans hR.out.le hB
        · have HM := Lib.hid (show decide (bl x ∈ acc.map bl) = false from decide_eq_false hm)
          have HMM := Lib.hid hm
          clear c h1 h2 h3 hps hx hv hAC hy hm
          go_wp2_with (first | (go_at_call 76; refine (here_calls (by first | exact hR.out.rd | exact hR.out.rd.drewN _)).mono ?_; rw [← HS.out]; rintro e w2 ⟨rfl, ⟨nd, rfl⟩⟩) | (go_at_call 119; refine (HX.out _).mono ?_; rintro e w2 ⟨rfl, ⟨nd, rfl⟩⟩))
          refine start_ (n := 10) (S := fun w' => w'.cell? ⟨g, 6, none⟩ = some (.slice A acc.length d)) (ds := []) #[false, false, false, false, false, false, false, false, false, false] (by kernel_rfl) rfl rfl (show World.cell? _ ⟨g, 6, none⟩ = some _ from (blk_cell hgr 6).trans rfl) (fun hHeld => ?_); refine with_tabW va1_tab va1_bits (fun HT_ HW_ => ?_)
          refine pu_ (i := 0) (N := some 10) HT_ (bl_ 10 1) ?_
          refine pu_ (i := 1) (N := some 11) HT_ (bl_ 10 3) ?_
          refine pu_ (i := 2) (N := some 12) HT_ (bl_ 10 7) ?_
          refine pu_ (i := 3) (N := some 13) HT_ (bl_ 10 15) ?_
          refine pu_ (i := 4) (N := some 14) HT_ (bl_ 10 31) ?_
          refine pu_ (i := 6) (N := some 16) HT_ (bl_ 10 95) ?_
          refine tk_ (i := 5) (N := some 15) HT_ HW_ (bl_ 10 127) hHeld ?_ (hy := by rintro w' s0; go_simp; with_reducible rfl)
          refine on_ (i := 7) (N := some 17) HT_ (bl_ 10 255) rfl rfl (fun K hK => ?_)
          refine gs_ Tryz.func76 #[.pointer (some ⟨g, 0, none⟩)] ?_
          refine (here_calls (Rd.step (hR.out.rd.drewN _) (below_drew (Below.refl _ _)))).mono ?_
          rw [← HS.out]
          rintro e w2 ⟨rfl, ⟨nd2, rfl⟩⟩
          refine ⟨_, rfl, ?_⟩
          refine hK.out _ _ (show World.cell? _ ⟨g, 6, none⟩ = some _ from (blk_cell hgr 6).trans rfl) (fun hHeld => ?_)
          clear hK K
          refine nm_ (some 17) ?_
          refine on_ (i := 8) (N := some 18) HT_ (bl_ 10 511) rfl rfl (fun K hK => ?_)
          refine gs_ Tryz.func121 #[.slice A acc.length d, .string x] ?_
          refine (contains_calls A d acc x _ (Kd.R_reads' (Rd.drewN (Rd.step (hR.out.rd.drewN _) (below_drew (Below.refl _ _))) _).own.2.1).2.2 HAD.out HAC.out).mono ?_
          rw [HM.out]
          rintro e w2 ⟨rfl, ⟨nd3, rfl⟩⟩
          refine ⟨_, rfl, ?_⟩
          refine hK.out _ _ (show World.cell? _ ⟨g, 6, none⟩ = some _ from (blk_cell hgr 6).trans rfl) (fun hHeld => ?_)
          clear hK K
          refine nm_ (some 18) ?_
          refine on_ (i := 9) (N := some 19) HT_ (bl_ 10 1023) rfl rfl (fun K hK => ?_)
          refine gs_ Tryz.func120 #[.pointer (some ⟨g, 0, none⟩), .bool false, .string ⟨#[118, 97, 114, 105, 97, 110, 116]⟩] ?_
          refine (twice_no g _).mono ?_
          rintro e w2 ⟨rfl, rfl⟩
          refine ⟨_, rfl, ?_⟩
          refine hK.out _ _ (show World.cell? _ ⟨g, 6, none⟩ = some _ from (blk_cell hgr 6).trans rfl) (fun hHeld => ?_)
          clear hK K
          refine nm_ (some 19) ?_
          refine done_ (done_of HT_.out (by kernel_rfl)) ?_
          go_wp2
          refine start_ (n := 14) (S := fun w' => w'.cell? ⟨g, 6, none⟩ = some (.slice A acc.length d)) (ds := [13]) #[false, false, false, false, false, false, false, false, false, false, false, false, false, false] (by kernel_rfl) rfl rfl (show World.cell? _ ⟨g, 6, none⟩ = some _ from (blk_cell hgr 6).trans rfl) (fun hHeld => ?_); refine with_tabW va2_tab va2_bits (fun HT_ HW_ => ?_)
          refine pu_ (i := 0) (N := some 20) HT_ (bl_ 14 1) ?_
          refine pu_ (i := 1) (N := some 21) HT_ (bl_ 14 3) ?_
          refine pu_ (i := 2) (N := some 22) HT_ (bl_ 14 7) ?_
          refine pu_ (i := 3) (N := some 23) HT_ (bl_ 14 15) ?_
          refine pu_ (i := 4) (N := some 24) HT_ (bl_ 14 31) ?_
          refine pu_ (i := 6) (N := some 26) HT_ (bl_ 14 95) ?_
          refine tk_ (i := 5) (N := some 25) HT_ HW_ (bl_ 14 127) hHeld ?_ (hy := by rintro w' s0; go_simp; with_reducible rfl)
          refine on_ (i := 7) (N := some 27) HT_ (bl_ 14 255) rfl rfl (fun K hK => ?_)
          refine gs_ Tryz.func83 #[.pointer (some ⟨g, 0, none⟩)] ?_
          refine (take_calls (Rd.step (Rd.drewN (Rd.drewN (Rd.step (hR.out.rd.drewN _) (below_drew (Below.refl _ _))) _) _) (below_drew (Below.refl _ _))) HP.out).mono ?_
          rw [← HS.out]
          rintro e w2 ⟨rfl, hRd, hK⟩
          have HRd := Lib.hid hRd
          have HK := Lib.hid hK
          clear hRd hK
          have HZ := Lib.hid (show ∃ A_ c_, w2.heap[g]? = some (.cells (rdCells A_ t.length c_ E { T with vars := acc } v1 (.slice A acc.length d) v5 v6) 70 (0, 0)) by obtain ⟨A_, c_, h_, _⟩ := HRd.out.cells; exact ⟨A_, c_, h_⟩)
          refine ⟨_, rfl, ?_⟩
          refine hK.out _ _ (show World.cell? _ ⟨g, 6, none⟩ = some _ from (blk_cell HZ.out.choose_spec.choose_spec 6).trans rfl) (fun hHeld => ?_)
          clear hK K
          refine nm_ (some 27) ?_
          refine on_ (i := 8) (N := some 28) HT_ (bl_ 14 511) rfl rfl (fun K hK => ?_)
          refine value_ (w1 := ?_) (v := ?_) (by rfl) rfl ?_ ?_
          rotate_left 2
          · go_simp
            constructor
            · rfl
            · rfl
          refine hK.out _ _ (show World.cell? _ ⟨g, 6, none⟩ = some _ from (blk_cell (blk_on HZ.out.choose_spec.choose_spec (below_alloc (Below.refl _ _) _)) 6).trans rfl) (fun hHeld => ?_)
          clear hK K
          refine nm_ (some 28) ?_
          refine on_ (i := 9) (N := some 29) HT_ (bl_ 14 1023) rfl rfl (fun K hK => ?_)
          (refine Kd.R_append_step Kd.string (w0 := w2) wp.heap.size (by rfl) (.tmp 25) (.tmp 28) 26 9 (.string ⟨#[]⟩) 16 rfl Tryz.underlying26 info9 rfl (by decide) (by decide) (.slice A acc.length d) acc x [.string x] (fun k_ => some k_ ≠ v1.ownBlock ∧ some k_ ≠ v6.ownBlock) (fun _ => False) rfl ?aX rfl (fun _ hk => hk.elim) (fun k hk => HRd.out.own.fresh4 k hk) HRd.out.own.2.1 (Below.refl _ _) ?aS ?aL ?_; (case aX => rfl); (case aS => exact HRd.out.size); (case aL => have := HAC.out; omega); intro x_ w3 hr_ hb_ hg_ hat_; rw [← HL.out] at hr_; obtain ⟨A', d', hx_⟩ := Kd.R_slice hr_; subst hx_; have HR3 := Lib.hid hr_; have HB3 := Lib.hid hb_; have HG3 := Lib.hid hg_; have HA3 := Lib.hid hat_; have z6 : World.cell? _ ⟨g, 6, none⟩ = some _ := (blk_cell (blk_grown HZ.out.choose_spec.choose_spec HG3.out (Kd.R_ne HRd.out.own.2.1 HZ.out.choose_spec.choose_spec (by decide))) 6).trans rfl; have f6 := blk_frozen (blk_grown HZ.out.choose_spec.choose_spec HG3.out (Kd.R_ne HRd.out.own.2.1 HZ.out.choose_spec.choose_spec (by decide))) 6; clear hr_ hb_ hg_ hat_)
          refine hK.out _ _ z6 (fun hHeld => ?_)
          clear hK K
          refine nm_ (some 29) ?_
          refine pu_ (i := 10) (N := some 30) HT_ (bl_ 14 2047) ?_
          refine pu_ (i := 11) (N := some 31) HT_ (bl_ 14 4095) ?_
          refine pu_ (i := 12) (N := some 32) HT_ (bl_ 14 8191) ?_
          refine last_ (i := 13) (N := none) #[true, true, true, true, true, true, true, true, true, true, true, true, true, true] rfl rfl (one_of HT_.out (by kernel_rfl)) (by decide) (fun K hK => ?_)
          refine skip_ (w1 := ?_) (by rfl) rfl ?_ ?_
          rotate_left
          · go_simp
            rfl
          refine hK.out _ _ ?_
          clear hK K
          refine done_ (done_of HT_.out (by kernel_rfl)) ?_
          go_wp2
          have st := HRd.out.app4 HB3.out HG3.out HA3.out HR3.out
          have l0 := hR.out.l
          have n0 := hR.out.n
          rw [HP.out, varR, ← HP.out, if_pos HO.out, ← HS.out, if_neg HMM.out, ← HL.out] at l0
          rw [HP.out, List.length_cons] at n0
          refine ⟨⟨t, y, _, Lib.hid ⟨st, ?_, l0, by rw [HL.out, List.length_append, List.length_singleton]; omega⟩⟩, ?_⟩
          · have h1 : W.heap.size ≤ w3.heap.size := Nat.le_trans hR.out.le (Nat.le_trans HK.out.1 HB3.out.size)
            simpa [World.setCell] using h1
          · have e1 := st.left
            have e2 := hR.out.rd.left
            rw [HP.out] at e2
            rw [e1, e2]
            exact Nat.lt_succ_self _
      · have hf : Iso.isVar (bl x) = false := by simpa using hv
        have HO := Lib.hid (show oneB (fun s => Iso.isVar (bl s)) ps' = false by unfold oneB; rw [← hx]; show (_ && Iso.isVar (bl x)) = false; rw [hf, Bool.and_false])
        rw [hf] at HX
        clear c h1 h2 h3 hps hx hv hf
        go_wp2_with (first | (go_at_call 76; refine (here_calls (by first | exact hR.out.rd | exact hR.out.rd.drewN _)).mono ?_; rw [← HS.out]; rintro e w2 ⟨rfl, ⟨nd, rfl⟩⟩) | (go_at_call 119; refine (HX.out _).mono ?_; rintro e w2 ⟨rfl, ⟨nd, rfl⟩⟩))
        go_end0
        have l0 := hR.out.l
        rw [varR_no HO.out] at l0
        refine Or.inl ⟨by rw [l0], .slice A acc.length d, rfl, ?_⟩
        rw [l0]
        exact hR.out.rd.drewN _
end Go.Proofs.YtejnfbfikadpdaaGreatDoor.P
