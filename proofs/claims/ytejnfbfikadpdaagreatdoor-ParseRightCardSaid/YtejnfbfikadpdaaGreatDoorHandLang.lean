/- language of parse's reader, walked. -/
import Derived.Test.YtejnfbfikadpdaaGreatDoorSq
import Derived.Test.YtejnfbfikadpdaaGreatDoorHandPut
import Derived.Test.YtejnfbfikadpdaaGreatDoorPx5
import Derived.Test.YtejnfbfikadpdaaGreatDoorPx5
namespace Go.Proofs.YtejnfbfikadpdaaGreatDoor.P
open Go.RowKit Go.Shelf Go.Proofs.YtejnfbfikadpdaaGreatDoorW.PrintWords Go.Proofs.YtejnfbfikadpdaaGreatDoorW.PrintLast Go.Proofs.YtejnfbfikadpdaaGreatDoorW.PrintMore Go.Proofs.YtejnfbfikadpdaaGreatDoor.Iso
set_option linter.unusedVariables false
set_option linter.unusedSimpArgs false
attribute [local go_sem] Oper.semAt_some
theorem so_Language : SoIs 115 (fun s => isLang (bl s)) := fun s hs W => by
  obtain ⟨k, hk⟩ := (tag_Language_ev s (by omega)).rounds
  exact tag_Language.calls k s _ W hk
theorem so_Extlang : SoIs 116 (fun s => isExtl (bl s)) := fun s hs W => by
  obtain ⟨k, hk⟩ := (tag_Extlang_ev s (by omega)).rounds
  exact tag_Extlang.calls k s _ W hk
def extL : Nat → List PieceR → List ByteArray
  | 0, _ => []
  | _ + 1, [] => []
  | n + 1, p :: t => if isExtl (bl (hereB (p :: t))) then hereB (p :: t) :: extL n t else []
def extT : Nat → List PieceR → List PieceR
  | 0, ps => ps
  | _ + 1, [] => []
  | n + 1, p :: t => if isExtl (bl (hereB (p :: t))) then extT n t else p :: t
theorem extL_no {n : Nat} {ps : List PieceR} (h : isExtl (bl (hereB ps)) = false) : extL n ps = [] ∧ extT n ps = ps := by
  cases n with
  | zero => exact ⟨rfl, rfl⟩
  | succ n =>
    cases ps with
    | nil => exact ⟨rfl, rfl⟩
    | cons p t => exact ⟨by unfold extL; rw [h]; rfl, by unfold extT; rw [h]; rfl⟩
theorem extL_yes {n : Nat} {p : PieceR} {t : List PieceR} (h : isExtl (bl (hereB (p :: t))) = true) : extL (n + 1) (p :: t) = hereB (p :: t) :: extL n t ∧ extT (n + 1) (p :: t) = extT n t :=
  ⟨by rw [extL, if_pos h], by rw [extT, if_pos h]⟩
structure LgAt (w0 wp W wr : World) (g : Nat) (n : Nat) (ps0 ps : List PieceR) (E : Int) (T : TG) (u v4 v5 v6 : Value) (acc : List ByteArray) : Prop where
  rd : Rd w0 wp wr g ps E { T with ext := acc } u v4 v5 v6
  le : W.heap.size ≤ wr.heap.size
  l : extL 3 ps0 = acc ++ extL n ps
  t : extT 3 ps0 = extT n ps
  n : acc.length + n = 3
def lg7_T : Bool × List (List Nat × List Nat) := (true, [([], []), ([], []), ([1], [1]), ([2], [2]), ([3], [3]), ([4], [4]), ([], []), ([6], [6]), ([7], [7]), ([5, 8, 7], [5, 8]), ([0, 0, 1, 2, 3, 4, 5, 6, 7, 8, 9], [0]), ([10, 0, 1, 2, 3, 4, 5, 6, 7, 8, 9], [10]), ([11, 0, 1, 2, 3, 4, 5, 6, 7, 8, 9], [11]), ([12, 9, 9, 0, 1, 2, 3, 4, 5, 6, 7, 8, 9], [9, 12])])
def lg7_B : List Nat := [0, 0, 2, 6, 14, 30, 0, 64, 192, 510, 1023, 2047, 4095, 8191]
theorem lg7_tab : rtab .any (opsOf Tryz.f77 7) = lg7_T := by kernel_rfl
theorem lg7_bits : waitsOk lg7_T.2 lg7_B = true := by kernel_rfl
def LangSaid (w0 wp W : World) (g : Nat) (ps : List PieceR) (E : Int) (T : TG) (v4 v5 v6 : Value) (e : Ending) (W' : World) : Prop :=
      (oneB (fun s => isLang (bl s)) ps = true ∧ ∃ u, e = .returned (.tuple #[]) ∧ Rd w0 wp W' g (if (hereB ps).size ≤ 3 then extT 3 (ps.drop 1) else ps.drop 1) E { T with lang := hereB ps, ext := if (hereB ps).size ≤ 3 then extL 3 (ps.drop 1) else [] } u v4 v5 v6) ∨
      (oneB (fun s => isLang (bl s)) ps = false ∧ Bad g W 10 (stopE E ps).1 (stopE E ps).2 e W' ∧ BadK w0 wp g W')
set_option maxRecDepth 100000 in
set_option maxHeartbeats 4000000 in
theorem language_calls {w0 wp W : World} {g : Nat} {ps : List PieceR} {E : Int} {T : TG} {v4 v5 v6 : Value} (h : Rd w0 wp W g ps E T (.slice none 0 0) v4 v5 v6) (hx : T.ext = []) :
    Calls Tryz.prog 77 #[.pointer (some ⟨g, 0, none⟩)] W fun e W' => LangSaid w0 wp W g ps E T v4 v5 v6 e W' := by
  have HC := Lib.hid (oneLanguage h so_Language)
  have HW0 := Lib.hid (show w0.heap.size ≤ W.heap.size from Nat.le_trans h.lo (Nat.le_of_lt (Nat.lt_of_lt_of_le h.hi h.size)))
  by_cases c : oneB (fun s => isLang (bl s)) ps = true
  · rw [c, if_pos rfl, if_pos rfl] at HC
    obtain ⟨s, hs⟩ : ∃ s, s = hereB ps := ⟨_, rfl⟩
    have hl : s.size ≤ 8 ∧ 2 ≤ s.size := by
      unfold oneB isLang at c
      simp only [Bool.and_eq_true, decide_eq_true_eq] at c
      rw [hs]
      exact ⟨c.2.2.2, c.2.2.1⟩
    rw [← hs] at HC
    have hn : ¬ (s.toList = ([] : List UInt8)) := fun e => by
      have : (bl s).length = 0 := by rw [← bl_toList, e]; rfl
      rw [bl_len] at this
      omega
    have hn1 : (s.toList == ([] : List UInt8)) = false := beq_eq_false_iff_ne.2 hn
    have hn2 : (s.toList != ([] : List UInt8)) = true := bne_iff_ne.2 hn
    have HC0 := Lib.hid c
    have HT := Lib.hid hx
    have HS0 := Lib.hid hs
    clear h hs c hx
    by_cases k2 : s.size = 2
    · go_enter Tryz.func77, Tryz.ntmps77
      go_wp2_with (go_at_call 78; refine HC.out.mono ?_; rintro e w2 ⟨rfl, hR, hK⟩; have HR := Lib.hid hR; have HK := Lib.hid hK; have hz := hR.cells; obtain ⟨Z1, Z2, Z3, -, -⟩ := hz; have y2 : w2.cell? ⟨g, 2, none⟩ = some _ := (blk_cell Z3 2).trans rfl; have y3 := blk_frozen Z3 2; have y4 : w2.cell? ⟨g, 3, none⟩ = some _ := (blk_cell Z3 3).trans rfl; clear hR hK Z3)
      obtain ⟨T1, hT1⟩ : ∃ T1 : TG, T1 = { T with lang := s } := ⟨_, rfl⟩
      have HT1 := Lib.hid hT1
      have L0 := Lib.hid (show LgAt w0 wp W (w2.setCell ⟨g, 2, none⟩ (.string s)) g 3 (ps.drop 1) (ps.drop 1) E T1 (.slice none 0 0) v4 v5 v6 [] from ⟨by have := HR.out.putS 2 (.string s) T1 (by rw [hT1]) (by rw [hT1]) (by rw [hT1]) (by rw [hT1]) (fun _ _ => by rw [hT1]; rfl); rwa [show T1 = { T1 with ext := [] } by rw [hT1, HT.out]] at this, by have := HK.out.1; simpa using this, rfl, rfl, rfl⟩)
      clear y2 y3 y4 hT1
      go_loopw [] (fun wr => ∃ (n : Nat) (ps' : List PieceR) (acc : List ByteArray) (u : Value), Hid (LgAt w0 wp W wr g n (ps.drop 1) ps' E T1 u v4 v5 v6 acc)) (fun wr => leftAt wr g)
      case atStart => exact ⟨3, ps.drop 1, [], _, L0⟩
      case round =>
        clear L0
        obtain ⟨n, ps', acc, u, hR⟩ := hrel
        obtain ⟨A, d, hu⟩ := Kd.R_slice hR.out.rd.own.1
        replace hu : u = .slice A acc.length d := hu
        subst hu
        obtain ⟨A0, c0, hgr, _, _⟩ := hR.out.rd.cells
        have z3 : wr.cell? ⟨g, 3, none⟩ = some (.slice A acc.length d) := (blk_cell hgr 3).trans rfl
        by_cases c3 : acc.length < 3
        · obtain ⟨m, rfl⟩ : ∃ m, n = m + 1 := ⟨n - 1, by have := hR.out.n; omega⟩
          have q0 : (acc.length : Int) < 3 := by omega
          have q1 : decide ((acc.length : Int) < 3) = true := decide_eq_true q0
          have HX0 := so_Extlang (hereB ps') (here_size ps')
          dsimp only at HX0
          have HX := Lib.hid HX0
          clear HX0
          by_cases cx : isExtl (bl (hereB ps')) = true
          · obtain ⟨p, t, hps⟩ : ∃ p t, ps' = p :: t := by
              cases ps' with
              | nil => exact absurd cx (by decide)
              | cons p t => exact ⟨p, t, rfl⟩
            have HY := Lib.hid (extL_yes (n := m) (show isExtl (bl (hereB (p :: t))) = true by rw [← hps]; exact cx))
            rw [cx] at HX
            have HP := Lib.hid hps
            obtain ⟨x, hx⟩ : ∃ x, x = hereB ps' := ⟨_, rfl⟩
            have HAC := Lib.hid c3
            obtain ⟨y, hy⟩ : ∃ y, y = acc ++ [x] := ⟨_, rfl⟩
            have HL := Lib.hid hy
            have HS := Lib.hid hx
            rw [← hx] at HX
            clear cx hps hx c3 HC0 hy
            go_wp2_with (first | (go_at_call 76; refine (here_calls hR.out.rd).mono ?_; rw [← HS.out]; rintro e w2 ⟨rfl, ⟨nd, rfl⟩⟩) | (go_at_call 116; refine (HX.out _).mono ?_; rintro e w2 ⟨rfl, ⟨nd, rfl⟩⟩))
            refine start_ (n := 14) (S := fun w' => w'.cell? ⟨g, 3, none⟩ = some (.slice A acc.length d)) (ds := [13]) #[false, false, false, false, false, false, false, false, false, false, false, false, false, false] (by kernel_rfl) rfl rfl (show World.cell? _ ⟨g, 3, none⟩ = some _ from (blk_cell hgr 3).trans rfl) (fun hHeld => ?_); refine with_tabW lg7_tab lg7_bits (fun HT_ HW_ => ?_)
            refine pu_ (i := 0) (N := some 38) HT_ (bl_ 14 1) ?_
            refine pu_ (i := 1) (N := some 39) HT_ (bl_ 14 3) ?_
            refine pu_ (i := 2) (N := some 40) HT_ (bl_ 14 7) ?_
            refine pu_ (i := 3) (N := some 41) HT_ (bl_ 14 15) ?_
            refine pu_ (i := 4) (N := some 42) HT_ (bl_ 14 31) ?_
            refine pu_ (i := 6) (N := some 44) HT_ (bl_ 14 95) ?_
            refine tk_ (i := 5) (N := some 43) HT_ HW_ (bl_ 14 127) hHeld ?_ (hy := by rintro w' s0; go_simp; with_reducible rfl)
            refine on_ (i := 7) (N := some 45) HT_ (bl_ 14 255) rfl rfl (fun K hK => ?_)
            refine gs_ Tryz.func83 #[.pointer (some ⟨g, 0, none⟩)] ?_
            refine (take_calls (Rd.step (hR.out.rd.drewN _) (below_drew (Below.refl _ _))) HP.out).mono ?_
            rw [← HS.out]
            rintro e w2 ⟨rfl, hRd, hK⟩
            have HRd := Lib.hid hRd
            have HK := Lib.hid hK
            clear hRd hK
            have HZ := Lib.hid (show ∃ A_ c_, w2.heap[g]? = some (.cells (rdCells A_ t.length c_ E { T1 with ext := acc } (.slice A acc.length d) v4 v5 v6) 70 (0, 0)) by obtain ⟨A_, c_, h_, _⟩ := HRd.out.cells; exact ⟨A_, c_, h_⟩)
            refine ⟨_, rfl, ?_⟩
            refine hK.out _ _ (show World.cell? _ ⟨g, 3, none⟩ = some _ from (blk_cell HZ.out.choose_spec.choose_spec 3).trans rfl) (fun hHeld => ?_)
            clear hK K
            refine nm_ (some 45) ?_
            refine on_ (i := 8) (N := some 46) HT_ (bl_ 14 511) rfl rfl (fun K hK => ?_)
            refine value_ (w1 := ?_) (v := ?_) (by rfl) rfl ?_ ?_
            rotate_left 2
            · go_simp
              constructor
              · rfl
              · rfl
            refine hK.out _ _ (show World.cell? _ ⟨g, 3, none⟩ = some _ from (blk_cell (blk_on HZ.out.choose_spec.choose_spec (below_alloc (Below.refl _ _) _)) 3).trans rfl) (fun hHeld => ?_)
            clear hK K
            refine nm_ (some 46) ?_
            refine on_ (i := 9) (N := some 47) HT_ (bl_ 14 1023) rfl rfl (fun K hK => ?_)
            (refine Kd.R_append_step Kd.string (w0 := w2) wp.heap.size (by rfl) (.tmp 43) (.tmp 46) 26 9 (.string ⟨#[]⟩) 16 rfl Tryz.underlying26 info9 rfl (by decide) (by decide) (.slice A acc.length d) acc x [.string x] (fun k_ => some k_ ≠ v4.ownBlock ∧ some k_ ≠ v6.ownBlock) (fun _ => False) rfl ?aX rfl (fun _ hk => hk.elim) (fun k hk => HRd.out.own.fresh1 k hk) HRd.out.own.1 (Below.refl _ _) ?aS ?aL ?_; (case aX => rfl); (case aS => exact HRd.out.size); (case aL => have := HAC.out; omega); intro x_ w3 hr_ hb_ hg_ hat_; rw [← HL.out] at hr_; obtain ⟨A', d', hx_⟩ := Kd.R_slice hr_; subst hx_; have HR3 := Lib.hid hr_; have HB3 := Lib.hid hb_; have HG3 := Lib.hid hg_; have HA3 := Lib.hid hat_; have z3 : World.cell? _ ⟨g, 3, none⟩ = some _ := (blk_cell (blk_grown HZ.out.choose_spec.choose_spec HG3.out (Kd.R_ne HRd.out.own.1 HZ.out.choose_spec.choose_spec (by decide))) 3).trans rfl; have f3 := blk_frozen (blk_grown HZ.out.choose_spec.choose_spec HG3.out (Kd.R_ne HRd.out.own.1 HZ.out.choose_spec.choose_spec (by decide))) 3; clear hr_ hb_ hg_ hat_)
            refine hK.out _ _ z3 (fun hHeld => ?_)
            clear hK K
            refine nm_ (some 47) ?_
            refine pu_ (i := 10) (N := some 48) HT_ (bl_ 14 2047) ?_
            refine pu_ (i := 11) (N := some 49) HT_ (bl_ 14 4095) ?_
            refine pu_ (i := 12) (N := some 50) HT_ (bl_ 14 8191) ?_
            refine last_ (i := 13) (N := none) #[true, true, true, true, true, true, true, true, true, true, true, true, true, true] rfl rfl (one_of HT_.out (by kernel_rfl)) (by decide) (fun K hK => ?_)
            refine skip_ (w1 := ?_) (by rfl) rfl ?_ ?_
            rotate_left
            · go_simp
              rfl
            refine hK.out _ _ ?_
            clear hK K
            refine done_ (done_of HT_.out (by kernel_rfl)) ?_
            go_wp2
            have st := HRd.out.app1 HB3.out HG3.out HA3.out HR3.out
            have la := HY.out
            have l0 := hR.out.l
            have t0 := hR.out.t
            have n0 := hR.out.n
            rw [HP.out] at l0 t0
            rw [la.1, ← HP.out, ← HS.out] at l0
            rw [la.2] at t0
            refine ⟨⟨m, t, y, _, Lib.hid ⟨st, ?_, by rw [HL.out, List.append_assoc]; exact l0, t0, by rw [HL.out, List.length_append, List.length_singleton]; omega⟩⟩, ?_⟩
            · have h1 : W.heap.size ≤ w3.heap.size := Nat.le_trans hR.out.le (Nat.le_trans HK.out.1 HB3.out.size)
              simpa [World.setCell] using h1
            · have e1 := st.left
              have e2 := hR.out.rd.left
              rw [HP.out] at e2
              rw [e1, e2]
              exact Nat.lt_succ_self _
          · have cf : isExtl (bl (hereB ps')) = false := by simpa using cx
            have HY := Lib.hid (extL_no (n := m + 1) cf)
            rw [cf] at HX
            obtain ⟨x, hx⟩ : ∃ x, x = hereB ps' := ⟨_, rfl⟩
            have HS := Lib.hid hx
            rw [← hx] at HX
            clear cx cf hx c3
            go_wp2_with (first | (go_at_call 76; refine (here_calls hR.out.rd).mono ?_; rw [← HS.out]; rintro e w2 ⟨rfl, ⟨nd, rfl⟩⟩) | (go_at_call 116; refine (HX.out _).mono ?_; rintro e w2 ⟨rfl, ⟨nd, rfl⟩⟩))
            go_end0
            have l0 := hR.out.l
            have t0 := hR.out.t
            rw [HY.out.1, List.append_nil] at l0
            rw [HY.out.2] at t0
            have hle : s.size ≤ 3 := by omega
            refine Or.inl ⟨HC0.out, .slice A acc.length d, rfl, ?_⟩
            rw [← HS0.out]
            rw [if_pos hle, if_pos hle, l0, t0]
            have r0 := hR.out.rd
            rw [HT1.out] at r0
            exact r0.drewN _
        · have n0 : n = 0 := by have := hR.out.n; omega
          subst n0
          have q0 : ¬ ((acc.length : Int) < 3) := by omega
          have q1 : decide ((acc.length : Int) < 3) = false := decide_eq_false q0
          have HY := Lib.hid (show extL 0 ps' = [] ∧ extT 0 ps' = ps' from ⟨rfl, rfl⟩)
          clear c3
          go_wp2
          go_end0
          have l0 := hR.out.l
          have t0 := hR.out.t
          rw [HY.out.1, List.append_nil] at l0
          rw [HY.out.2] at t0
          have hle : s.size ≤ 3 := by omega
          refine Or.inl ⟨HC0.out, .slice A acc.length d, rfl, ?_⟩
          rw [← HS0.out]
          rw [if_pos hle, if_pos hle, l0, t0]
          have r0 := hR.out.rd
          rw [HT1.out] at r0
          exact r0
    · by_cases k3 : s.size = 3
      · go_enter Tryz.func77, Tryz.ntmps77
        go_wp2_with (go_at_call 78; refine HC.out.mono ?_; rintro e w2 ⟨rfl, hR, hK⟩; have HR := Lib.hid hR; have HK := Lib.hid hK; have hz := hR.cells; obtain ⟨Z1, Z2, Z3, -, -⟩ := hz; have y2 : w2.cell? ⟨g, 2, none⟩ = some _ := (blk_cell Z3 2).trans rfl; have y3 := blk_frozen Z3 2; have y4 : w2.cell? ⟨g, 3, none⟩ = some _ := (blk_cell Z3 3).trans rfl; clear hR hK Z3)
        obtain ⟨T1, hT1⟩ : ∃ T1 : TG, T1 = { T with lang := s } := ⟨_, rfl⟩
        have HT1 := Lib.hid hT1
        have L0 := Lib.hid (show LgAt w0 wp W (w2.setCell ⟨g, 2, none⟩ (.string s)) g 3 (ps.drop 1) (ps.drop 1) E T1 (.slice none 0 0) v4 v5 v6 [] from ⟨by have := HR.out.putS 2 (.string s) T1 (by rw [hT1]) (by rw [hT1]) (by rw [hT1]) (by rw [hT1]) (fun _ _ => by rw [hT1]; rfl); rwa [show T1 = { T1 with ext := [] } by rw [hT1, HT.out]] at this, by have := HK.out.1; simpa using this, rfl, rfl, rfl⟩)
        clear y2 y3 y4 hT1
        go_loopw [] (fun wr => ∃ (n : Nat) (ps' : List PieceR) (acc : List ByteArray) (u : Value), Hid (LgAt w0 wp W wr g n (ps.drop 1) ps' E T1 u v4 v5 v6 acc)) (fun wr => leftAt wr g)
        case atStart => exact ⟨3, ps.drop 1, [], _, L0⟩
        case round =>
          clear L0
          obtain ⟨n, ps', acc, u, hR⟩ := hrel
          obtain ⟨A, d, hu⟩ := Kd.R_slice hR.out.rd.own.1
          replace hu : u = .slice A acc.length d := hu
          subst hu
          obtain ⟨A0, c0, hgr, _, _⟩ := hR.out.rd.cells
          have z3 : wr.cell? ⟨g, 3, none⟩ = some (.slice A acc.length d) := (blk_cell hgr 3).trans rfl
          by_cases c3 : acc.length < 3
          · obtain ⟨m, rfl⟩ : ∃ m, n = m + 1 := ⟨n - 1, by have := hR.out.n; omega⟩
            have q0 : (acc.length : Int) < 3 := by omega
            have q1 : decide ((acc.length : Int) < 3) = true := decide_eq_true q0
            have HX0 := so_Extlang (hereB ps') (here_size ps')
            dsimp only at HX0
            have HX := Lib.hid HX0
            clear HX0
            by_cases cx : isExtl (bl (hereB ps')) = true
            · obtain ⟨p, t, hps⟩ : ∃ p t, ps' = p :: t := by
                cases ps' with
                | nil => exact absurd cx (by decide)
                | cons p t => exact ⟨p, t, rfl⟩
              have HY := Lib.hid (extL_yes (n := m) (show isExtl (bl (hereB (p :: t))) = true by rw [← hps]; exact cx))
              rw [cx] at HX
              have HP := Lib.hid hps
              obtain ⟨x, hx⟩ : ∃ x, x = hereB ps' := ⟨_, rfl⟩
              have HAC := Lib.hid c3
              obtain ⟨y, hy⟩ : ∃ y, y = acc ++ [x] := ⟨_, rfl⟩
              have HL := Lib.hid hy
              have HS := Lib.hid hx
              rw [← hx] at HX
              clear cx hps hx c3 HC0 hy
              go_wp2_with (first | (go_at_call 76; refine (here_calls hR.out.rd).mono ?_; rw [← HS.out]; rintro e w2 ⟨rfl, ⟨nd, rfl⟩⟩) | (go_at_call 116; refine (HX.out _).mono ?_; rintro e w2 ⟨rfl, ⟨nd, rfl⟩⟩))
              refine start_ (n := 14) (S := fun w' => w'.cell? ⟨g, 3, none⟩ = some (.slice A acc.length d)) (ds := [13]) #[false, false, false, false, false, false, false, false, false, false, false, false, false, false] (by kernel_rfl) rfl rfl (show World.cell? _ ⟨g, 3, none⟩ = some _ from (blk_cell hgr 3).trans rfl) (fun hHeld => ?_); refine with_tabW lg7_tab lg7_bits (fun HT_ HW_ => ?_)
              refine pu_ (i := 0) (N := some 38) HT_ (bl_ 14 1) ?_
              refine pu_ (i := 1) (N := some 39) HT_ (bl_ 14 3) ?_
              refine pu_ (i := 2) (N := some 40) HT_ (bl_ 14 7) ?_
              refine pu_ (i := 3) (N := some 41) HT_ (bl_ 14 15) ?_
              refine pu_ (i := 4) (N := some 42) HT_ (bl_ 14 31) ?_
              refine pu_ (i := 6) (N := some 44) HT_ (bl_ 14 95) ?_
              refine tk_ (i := 5) (N := some 43) HT_ HW_ (bl_ 14 127) hHeld ?_ (hy := by rintro w' s0; go_simp; with_reducible rfl)
              refine on_ (i := 7) (N := some 45) HT_ (bl_ 14 255) rfl rfl (fun K hK => ?_)
              refine gs_ Tryz.func83 #[.pointer (some ⟨g, 0, none⟩)] ?_
              refine (take_calls (Rd.step (hR.out.rd.drewN _) (below_drew (Below.refl _ _))) HP.out).mono ?_
              rw [← HS.out]
              rintro e w2 ⟨rfl, hRd, hK⟩
              have HRd := Lib.hid hRd
              have HK := Lib.hid hK
              clear hRd hK
              have HZ := Lib.hid (show ∃ A_ c_, w2.heap[g]? = some (.cells (rdCells A_ t.length c_ E { T1 with ext := acc } (.slice A acc.length d) v4 v5 v6) 70 (0, 0)) by obtain ⟨A_, c_, h_, _⟩ := HRd.out.cells; exact ⟨A_, c_, h_⟩)
              refine ⟨_, rfl, ?_⟩
              refine hK.out _ _ (show World.cell? _ ⟨g, 3, none⟩ = some _ from (blk_cell HZ.out.choose_spec.choose_spec 3).trans rfl) (fun hHeld => ?_)
              clear hK K
              refine nm_ (some 45) ?_
              refine on_ (i := 8) (N := some 46) HT_ (bl_ 14 511) rfl rfl (fun K hK => ?_)
              refine value_ (w1 := ?_) (v := ?_) (by rfl) rfl ?_ ?_
              rotate_left 2
              · go_simp
                constructor
                · rfl
                · rfl
              refine hK.out _ _ (show World.cell? _ ⟨g, 3, none⟩ = some _ from (blk_cell (blk_on HZ.out.choose_spec.choose_spec (below_alloc (Below.refl _ _) _)) 3).trans rfl) (fun hHeld => ?_)
              clear hK K
              refine nm_ (some 46) ?_
              refine on_ (i := 9) (N := some 47) HT_ (bl_ 14 1023) rfl rfl (fun K hK => ?_)
              (refine Kd.R_append_step Kd.string (w0 := w2) wp.heap.size (by rfl) (.tmp 43) (.tmp 46) 26 9 (.string ⟨#[]⟩) 16 rfl Tryz.underlying26 info9 rfl (by decide) (by decide) (.slice A acc.length d) acc x [.string x] (fun k_ => some k_ ≠ v4.ownBlock ∧ some k_ ≠ v6.ownBlock) (fun _ => False) rfl ?aX rfl (fun _ hk => hk.elim) (fun k hk => HRd.out.own.fresh1 k hk) HRd.out.own.1 (Below.refl _ _) ?aS ?aL ?_; (case aX => rfl); (case aS => exact HRd.out.size); (case aL => have := HAC.out; omega); intro x_ w3 hr_ hb_ hg_ hat_; rw [← HL.out] at hr_; obtain ⟨A', d', hx_⟩ := Kd.R_slice hr_; subst hx_; have HR3 := Lib.hid hr_; have HB3 := Lib.hid hb_; have HG3 := Lib.hid hg_; have HA3 := Lib.hid hat_; have z3 : World.cell? _ ⟨g, 3, none⟩ = some _ := (blk_cell (blk_grown HZ.out.choose_spec.choose_spec HG3.out (Kd.R_ne HRd.out.own.1 HZ.out.choose_spec.choose_spec (by decide))) 3).trans rfl; have f3 := blk_frozen (blk_grown HZ.out.choose_spec.choose_spec HG3.out (Kd.R_ne HRd.out.own.1 HZ.out.choose_spec.choose_spec (by decide))) 3; clear hr_ hb_ hg_ hat_)
              refine hK.out _ _ z3 (fun hHeld => ?_)
              clear hK K
              refine nm_ (some 47) ?_
              refine pu_ (i := 10) (N := some 48) HT_ (bl_ 14 2047) ?_
              refine pu_ (i := 11) (N := some 49) HT_ (bl_ 14 4095) ?_
              refine pu_ (i := 12) (N := some 50) HT_ (bl_ 14 8191) ?_
              refine last_ (i := 13) (N := none) #[true, true, true, true, true, true, true, true, true, true, true, true, true, true] rfl rfl (one_of HT_.out (by kernel_rfl)) (by decide) (fun K hK => ?_)
              refine skip_ (w1 := ?_) (by rfl) rfl ?_ ?_
              rotate_left
              · go_simp
                rfl
              refine hK.out _ _ ?_
              clear hK K
              refine done_ (done_of HT_.out (by kernel_rfl)) ?_
              go_wp2
              have st := HRd.out.app1 HB3.out HG3.out HA3.out HR3.out
              have la := HY.out
              have l0 := hR.out.l
              have t0 := hR.out.t
              have n0 := hR.out.n
              rw [HP.out] at l0 t0
              rw [la.1, ← HP.out, ← HS.out] at l0
              rw [la.2] at t0
              refine ⟨⟨m, t, y, _, Lib.hid ⟨st, ?_, by rw [HL.out, List.append_assoc]; exact l0, t0, by rw [HL.out, List.length_append, List.length_singleton]; omega⟩⟩, ?_⟩
              · have h1 : W.heap.size ≤ w3.heap.size := Nat.le_trans hR.out.le (Nat.le_trans HK.out.1 HB3.out.size)
                simpa [World.setCell] using h1
              · have e1 := st.left
                have e2 := hR.out.rd.left
                rw [HP.out] at e2
                rw [e1, e2]
                exact Nat.lt_succ_self _
            · have cf : isExtl (bl (hereB ps')) = false := by simpa using cx
              have HY := Lib.hid (extL_no (n := m + 1) cf)
              rw [cf] at HX
              obtain ⟨x, hx⟩ : ∃ x, x = hereB ps' := ⟨_, rfl⟩
              have HS := Lib.hid hx
              rw [← hx] at HX
              clear cx cf hx c3
              go_wp2_with (first | (go_at_call 76; refine (here_calls hR.out.rd).mono ?_; rw [← HS.out]; rintro e w2 ⟨rfl, ⟨nd, rfl⟩⟩) | (go_at_call 116; refine (HX.out _).mono ?_; rintro e w2 ⟨rfl, ⟨nd, rfl⟩⟩))
              go_end0
              have l0 := hR.out.l
              have t0 := hR.out.t
              rw [HY.out.1, List.append_nil] at l0
              rw [HY.out.2] at t0
              have hle : s.size ≤ 3 := by omega
              refine Or.inl ⟨HC0.out, .slice A acc.length d, rfl, ?_⟩
              rw [← HS0.out]
              rw [if_pos hle, if_pos hle, l0, t0]
              have r0 := hR.out.rd
              rw [HT1.out] at r0
              exact r0.drewN _
          · have n0 : n = 0 := by have := hR.out.n; omega
            subst n0
            have q0 : ¬ ((acc.length : Int) < 3) := by omega
            have q1 : decide ((acc.length : Int) < 3) = false := decide_eq_false q0
            have HY := Lib.hid (show extL 0 ps' = [] ∧ extT 0 ps' = ps' from ⟨rfl, rfl⟩)
            clear c3
            go_wp2
            go_end0
            have l0 := hR.out.l
            have t0 := hR.out.t
            rw [HY.out.1, List.append_nil] at l0
            rw [HY.out.2] at t0
            have hle : s.size ≤ 3 := by omega
            refine Or.inl ⟨HC0.out, .slice A acc.length d, rfl, ?_⟩
            rw [← HS0.out]
            rw [if_pos hle, if_pos hle, l0, t0]
            have r0 := hR.out.rd
            rw [HT1.out] at r0
            exact r0
      · have k2' : ¬ ((s.size : Int) = 2) := by omega
        have k3' : ¬ ((s.size : Int) = 3) := by omega
        have k2b : ((s.size : Int) == 2) = false := beq_eq_false_iff_ne.2 k2'
        have k3b : ((s.size : Int) == 3) = false := beq_eq_false_iff_ne.2 k3'
        go_enter Tryz.func77, Tryz.ntmps77
        go_wp2_with (go_at_call 78; refine HC.out.mono ?_; rintro e w2 ⟨rfl, hR, hK⟩; have HR := Lib.hid hR; have HK := Lib.hid hK; have hz := hR.cells; obtain ⟨Z1, Z2, Z3, -, -⟩ := hz; have y2 : w2.cell? ⟨g, 2, none⟩ = some _ := (blk_cell Z3 2).trans rfl; have y3 := blk_frozen Z3 2; have y4 : w2.cell? ⟨g, 3, none⟩ = some _ := (blk_cell Z3 3).trans rfl; clear hR hK Z3)
        have hle : ¬ (s.size ≤ 3) := by omega
        go_end0
        refine Or.inl ⟨HC0.out, .slice none 0 0, rfl, ?_⟩
        rw [← HS0.out]
        rw [if_neg hle, if_neg hle]
        exact HR.out.putS 2 (.string s) { T with lang := s, ext := [] } HT.out.symm rfl rfl rfl (fun _ _ => by show _ = rdCells _ _ _ _ { T with lang := s, ext := [] } _ _ _ _; rfl)
  · have c' : oneB (fun s => isLang (bl s)) ps = false := by simpa using c
    rw [c', if_neg (by decide), if_neg (by decide)] at HC
    have HC0 := Lib.hid c'
    clear h c hx c'
    go_enter Tryz.func77, Tryz.ntmps77
    go_wp2_with (first | (go_at_call 78; refine HC.out.mono ?_; rintro e w2 ⟨rfl, hR, hK⟩; have HR := Lib.hid hR; have HK := Lib.hid hK; have hz := hR.cells; obtain ⟨Z1, Z2, Z3, -, -⟩ := hz; have y2 : w2.cell? ⟨g, 2, none⟩ = some _ := (blk_cell Z3 2).trans rfl; have y3 := blk_frozen Z3 2; have y4 : w2.cell? ⟨g, 3, none⟩ = some _ := (blk_cell Z3 3).trans rfl; clear hR hK Z3) | (go_at_call 86; have hp := HR.out.putS 2 (.string ⟨#[]⟩) { T with lang := ⟨#[]⟩ } rfl rfl rfl rfl (fun _ _ => rfl); refine (stop_calls hp).mono ?_; rintro e w3 ⟨⟨B, rfl, hF, hB⟩, hb⟩; have HF := Lib.hid hF; have HB := Lib.hid hB; have HBW := Lib.hid (hp.badK hb); clear hF hB hb hp))
    exact ⟨rfl, Or.inr ⟨HC0.out, ⟨_, rfl, HF.out, Nat.le_trans HK.out.1 (by have := HB.out; simpa using this)⟩, HBW.out⟩⟩
end Go.Proofs.YtejnfbfikadpdaaGreatDoor.P
