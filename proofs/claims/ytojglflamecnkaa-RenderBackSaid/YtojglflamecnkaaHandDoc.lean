/- The document's Parse, walked: it answers as the program's does. -/
import Derived.Test.YtojglflamecnkaaSq
import Derived.Test.YtojglflamecnkaaHandDo2
import Derived.Test.YtojglflamecnkaaPx13
import Derived.Test.YtojglflamecnkaaPx6
namespace Go.Proofs.Ytojglflamecnkaa.P
open Go.RowKit Go.Shelf Go.Proofs.YtojglflamecnkaaW.PrintWords Go.Proofs.YtojglflamecnkaaW.PrintLast Go.Proofs.YtojglflamecnkaaW.PrintMore Go.Proofs.Ytojglflamecnkaa.Iso
set_option linter.unusedVariables false
set_option linter.unusedSimpArgs false
attribute [local go_sem] Oper.semAt_some
set_option maxRecDepth 100000 in
set_option maxHeartbeats 16000000 in
theorem doc_plain (s : ByteArray) (w : World) (L : List P04) (hfew : L.length ≤ 1000000) (hsm : ∀ p ∈ L, p.f1.size ≤ 1000000) (z : Int) (hz : decide (z ≥ 0) = false) (r : PRes) (hr : allR (s.size : Int) (L.map lowP) = r)
    (FI : ∀ W, Calls Try.prog 43 #[.string s] W fun e W' => e = .returned (.int .i64 z) ∧ Below W.heap.size W W')
    (EA : ∀ W, Calls Try.prog 34 #[.string s] W fun e W' => ∃ v, e = .returned v ∧ Kd.R k58 58 W' W.heap.size (fun _ => True) v L ∧ Below W.heap.size W W') :
    Calls Try.prog 18 #[.string s] w fun e W' => GotSaid w r e W' := by
  have HFI := Lib.hid FI
  have HEA := Lib.hid EA
  have HR := Lib.hid hr
  have HF := Lib.hid hfew
  have HM := Lib.hid hsm
  have hz1 : ¬ (0 ≤ z) := by simpa using hz
  have HB1 := Lib.hid (below_alloc (Below.refl w.heap.size w) (.cells z0Got 40))
  have HN1 := Lib.hid (new_blk w (.cells z0Got 40))
  clear FI EA hr hfew hsm
  go_enter Try.func18, Try.ntmps18
  go_upto_region 5 with (first
    | (go_at_call 43; refine (HFI.out _).mono ?_; rintro e w2 ⟨rfl, hb⟩; have HB2 := Lib.hid (below_step HB1.out hb); have HN2 := Lib.hid (blk_on HN1.out hb); clear hb HB1 HN1 HFI)
    | (go_at_call 34; refine (HEA.out _).mono ?_; rintro e wl ⟨v, rfl, hR, hb⟩; obtain ⟨A, c, hv⟩ := Kd.R_slice hR; subst hv; have HB3 := Lib.hid (below_step HB2.out hb); have HN3 := Lib.hid (blk_on HN2.out hb); have HL3 := Lib.hid hR; clear hb HB2 HN2 HEA hR))
  obtain ⟨g, hg⟩ : ∃ g, g = wl.heap.size := ⟨_, rfl⟩
  obtain ⟨h, hh⟩ : ∃ h, h = g + 1 := ⟨_, rfl⟩
  obtain ⟨vp, hV⟩ : ∃ V, V = (wl.alloc (.cells #[.slice A L.length c, .int .i64 0, .int .i64 s.size] 68)).alloc (.cells #[.string ⟨#[]⟩, .slice none 0 0, .string ⟨#[]⟩, .string ⟨#[]⟩, .slice none 0 0, .slice none 0 0, .slice none 0 0, .string ⟨#[]⟩] 34) := ⟨_, rfl⟩
  have D0 : Hid (Dc w wl vp vp g h L (L.map lowP) (s.size : Int) T0 (.slice none 0 0) (.slice none 0 0) (.slice none 0 0) (.slice none 0 0)) := by
    obtain ⟨hc, hk⟩ := (Kd.R_reads' HL3.out).2
    have gW : ((wl.alloc (.cells #[.slice A L.length c, .int .i64 0, .int .i64 s.size] 68)).heap)[wl.heap.size]? = some (.cells #[.slice A L.length c, .int .i64 0, .int .i64 s.size] 68 (0, 0)) := new_blk _ _
    have sz : (wl.alloc (.cells #[.slice A L.length c, .int .i64 0, .int .i64 s.size] 68)).heap.size = wl.heap.size + 1 := by simp
    subst hg hh hV
    refine Lib.hid ⟨⟨below_alloc (below_alloc (Below.refl _ _) _) _, Nat.le_refl _, HF.out, HM.out, A, c, 0, blk_alloc1 gW _, hc, hk, Nat.zero_le _, rfl⟩, HB3.out, by omega, by simp, Nat.le_refl _, ?_, Kd.R_nil _ _ _ _ _, Kd.R_nil _ _ _ _ _, Kd.S_nil _ _ _ _ _, Kd.R_nil _ _ _ _ _⟩
    have := new_blk (wl.alloc (.cells #[.slice A L.length c, .int .i64 0, .int .i64 s.size] 68)) (.cells #[.string ⟨#[]⟩, .slice none 0 0, .string ⟨#[]⟩, .string ⟨#[]⟩, .slice none 0 0, .slice none 0 0, .slice none 0 0, .string ⟨#[]⟩] 34)
    rw [sz] at this
    exact this
  rw [← hV, ← hg, ← hh]
  have HLN := Lib.hid (show (L.map lowP).length ≤ 1000000 from by rw [List.length_map]; exact HF.out)
  have HGR := Lib.hid (show w.heap.size < wl.heap.size from blk_lt HN3.out)
  clear hg hh hV HL3
  obtain ⟨ps0, hp0⟩ : ∃ ps, ps = L.map lowP := ⟨_, rfl⟩
  rw [← hp0] at D0 HR
  obtain ⟨x, hx⟩ : ∃ x, x = hereB ps0 := ⟨_, rfl⟩
  have SX := Lib.hid hx
  have hx8 : x.size ≤ 8 := by rw [hx]; exact here_size ps0
  clear hx hp0
  go_upto_if 27 with (go_at_call 50; refine (here07_calls D0.out.dr).mono ?_; rw [← SX.out]; rintro e w4 ⟨rfl, hb⟩; dsimp only; have D4 := Lib.hid (D0.out.step hb); clear hb D0)
  go_cut [] (fun wc => ∃ (ps : List PieceR) (T : TG) (v1 v4 v5 : Value), Hid (Dc w wl vp wc g h L ps s.size T v1 v4 v5 (.slice none 0 0)) ∧ Hid (T.priv = []) ∧ Hid (tailR s.size T ps = r))
  case first =>
    by_cases cx : bl x = [120]
    · have hxe : (x.toList == ([120] : List UInt8)) = true := by rw [x_eq cx]; decide +kernel
      have h0 := HR.out
      rw [allR, ← SX.out, if_pos cx] at h0
      have HT := Lib.hid h0
      clear h0 cx
      rw [hxe]
      go_wp2
      go_meet
      case rel => exact ⟨ps0, T0, _, _, _, D4, Lib.hid rfl, HT⟩
    · obtain ⟨nx1, nx2, nx3⟩ := x_ne cx
      rw [nx2]
      have LA := Lib.hid (fun W : World => lang06 x hx8 W)
      by_cases cl : Iso.isLang (bl x) = true
      · obtain ⟨p, t, hps⟩ := q_cons (q := qLang) (by decide) (show qLang (hereB ps0) = true from by rw [← SX.out]; exact cl)
        have HP := Lib.hid hps
        rw [cl] at LA
        have h0 := HR.out
        rw [allR, ← SX.out, if_neg cx, one_q (q := qLang) (by decide), ← SX.out, if_pos (show qLang x = true from cl)] at h0
        unfold lgX lgT at h0
        rw [← SX.out, hps, show (p :: t).drop 1 = t from rfl] at h0
        obtain ⟨lx, hlx⟩ : ∃ l, l = (if x.size ≤ 3 then extL 3 t else []) := ⟨_, rfl⟩
        obtain ⟨pt, hpt⟩ : ∃ l, l = (if x.size ≤ 3 then extT 3 t else t) := ⟨_, rfl⟩
        rw [← hlx, ← hpt] at h0
        have HMD := Lib.hid h0
        have HLX := Lib.hid hlx
        have HPT := Lib.hid hpt
        clear h0 hlx hpt hps cx cl
        go_upto_region 9 with (first | (go_at_call 50; refine (here07_calls D4.out.dr).mono ?_; rw [← SX.out]; rintro e w5 ⟨rfl, hb⟩; dsimp only; have D5 := Lib.hid (D4.out.step hb); clear hb D4) | (go_at_call 45; refine (LA.out _).mono ?_; rintro e w6 ⟨rfl, hb⟩; dsimp only; have D6 := Lib.hid (D5.out.step hb); clear hb D5))
        go_upto_region 10 with (go_at_call 50; refine (here07_calls D6.out.dr).mono ?_; rw [← SX.out]; rintro e w7 ⟨rfl, hb⟩; dsimp only; have D7 := Lib.hid (D6.out.step hb); have f7 := blk_frozen D7.out.tg 0; have k7 : w7.cell? ⟨h, 0, none⟩ = some _ := (blk_cell D7.out.tg 0).trans rfl; clear hb D6)
        obtain ⟨V8, hV8⟩ : ∃ V, V = w7.setCell ⟨h, 0, none⟩ (.string x) := ⟨_, rfl⟩
        rw [← hV8]
        have D8 := Lib.hid (show Dc w wl vp V8 g h L ps0 s.size { T0 with lang := x } (.slice none 0 0) (.slice none 0 0) (.slice none 0 0) (.slice none 0 0) from by rw [hV8]; exact D7.out.putS 0 (.string x) { T0 with lang := x } rfl rfl rfl rfl rfl)
        clear hV8 D7 f7 k7
        obtain ⟨A8, c8, i8, gi8, -, -, li8, -⟩ := D8.out.dr.rd
        have GI8 := Lib.hid gi8
        have z8 : World.cell? V8 ⟨g, 1, none⟩ = some (.int .i64 (i8 : Int)) := (blk_cell gi8 1).trans rfl
        have f8 := blk_frozen gi8 1
        have y8 : wrap64 ((i8 : Int) + 1) = (i8 : Int) + 1 := by have := D8.out.dr.few; unfold wrap64; omega
        clear gi8 li8
        go_upto_block 0 with (fail)
        obtain ⟨V9, hV9⟩ : ∃ V, V = V8.setCell ⟨g, 1, none⟩ (.int .i64 ((i8 : Int) + 1)) := ⟨_, rfl⟩
        rw [← hV9]
        have D9 := Lib.hid (show Dc w wl vp V9 g h L t s.size { T0 with lang := x } (.slice none 0 0) (.slice none 0 0) (.slice none 0 0) (.slice none 0 0) from by rw [hV9]; exact dc_next D8.out HP.out GI8.out)
        clear hV9 D8 z8 f8 y8 GI8
        go_cut [] (fun wc => ∃ v1 : Value, Hid (Dc w wl vp wc g h L pt s.size { T0 with lang := x, ext := lx } v1 (.slice none 0 0) (.slice none 0 0) (.slice none 0 0)))
        case first =>
          go_wp2_with (fail)
          go_loopw [] (fun wr => ∃ (n : Nat) (ps' : List PieceR) (acc : List ByteArray) (u : Value), Hid (DLg w wl vp wr g h n L t ps' s.size { T0 with lang := x } x u acc)) (fun wr => leftD wr g L.length)
          case atStart => exact ⟨3, t, [], _, Lib.hid ⟨D9.out, rfl, rfl, rfl, fun _ => ⟨rfl, rfl⟩⟩⟩
          case round =>
            obtain ⟨n, ps', acc, u, hR⟩ := hrel
            clear D9
            have D1 := Lib.hid hR.out.dc
            obtain ⟨A, d, hu⟩ := Kd.R_slice D1.out.own.1
            replace hu : u = .slice A acc.length d := hu
            subst hu
            have e0 : wr.cell? ⟨h, 0, none⟩ = some (.string x) := (blk_cell D1.out.tg 0).trans rfl
            have e1 : wr.cell? ⟨h, 1, none⟩ = some (.slice A acc.length d) := (blk_cell D1.out.tg 1).trans rfl
            by_cases k3 : x.size ≤ 3
            · have k4 : decide ((x.size : Int) ≤ 3) = true := decide_eq_true (by omega)
              have k5 : (x.size : Int) ≤ 3 := by omega
              by_cases c3 : acc.length < 3
              · have c4 : decide ((acc.length : Int) < 3) = true := decide_eq_true (by omega)
                have c5 : (acc.length : Int) < 3 := by omega
                obtain ⟨m, rfl⟩ : ∃ m, n = m + 1 := ⟨n - 1, by have := hR.out.n; omega⟩
                obtain ⟨y, hy⟩ : ∃ y, y = hereB ps' := ⟨_, rfl⟩
                have SY := Lib.hid hy
                have EX := Lib.hid (fun W : World => ext06 y (by rw [hy]; exact here_size ps') W)
                have HAC := Lib.hid c3
                by_cases cx : isExtl (bl y) = true
                · obtain ⟨p', t', hps'⟩ := q_cons (q := fun s => isExtl (bl s)) (by decide) (show isExtl (bl (hereB ps')) = true from by rw [← hy]; exact cx)
                  have HP' := Lib.hid hps'
                  have HYS := Lib.hid (extL_yes (n := m) (show isExtl (bl (hereB (p' :: t'))) = true by rw [← hps', ← hy]; exact cx))
                  obtain ⟨y2, hy2⟩ : ∃ l, l = acc ++ [y] := ⟨_, rfl⟩
                  have HY := Lib.hid hy2
                  rw [cx] at EX
                  clear cx hps' hy hy2
                  go_upto_region 12 with (first | (go_at_call 50; refine (here07_calls D1.out.dr).mono ?_; rw [← SY.out]; rintro e w2 ⟨rfl, hb⟩; dsimp only; have D2 := Lib.hid (D1.out.step hb); clear hb D1) | (go_at_call 49; refine (EX.out _).mono ?_; rintro e w3 ⟨rfl, hb⟩; dsimp only; have D3 := Lib.hid (D2.out.step hb); clear hb D2))
                  clear e0 e1
                  refine start_ (n := 8) (S := fun w' => w'.cell? ⟨h, 1, none⟩ = some (.slice A acc.length d)) (ds := [7]) #[false, false, false, false, false, false, false, false] (by kernel_rfl) rfl rfl (show World.cell? _ ⟨h, 1, none⟩ = some _ from (blk_cell D3.out.tg 1).trans rfl) (fun hHeld => ?_); refine with_tabW dp12_tab dp12_bits (fun HT_ HW_ => ?_)
                  refine pu_ (i := 0) (N := some 60) HT_ (bl_ 8 1) ?_
                  refine tk_ (i := 1) (N := some 61) HT_ HW_ (bl_ 8 3) hHeld ?_ (hy := by rintro w' s0; go_simp; with_reducible rfl)
                  refine pu_ (i := 2) (N := some 62) HT_ (bl_ 8 7) ?_
                  refine on_ (i := 3) (N := some 63) HT_ (bl_ 8 15) rfl rfl (fun K hK => ?_)
                  refine gs_ Try.func50 #[.pointer (some ⟨g, 0, none⟩)] ?_
                  refine (here07_calls (Dc.step D3.out (below_drew (Below.refl _ _))).dr).mono ?_
                  rw [← SY.out]
                  rintro e wa ⟨rfl, hb⟩
                  have Da := Lib.hid ((Dc.step D3.out (below_drew (Below.refl _ _))).step hb)
                  clear hb D3
                  refine ⟨_, rfl, ?_⟩
                  refine hK.out _ _ (show World.cell? _ ⟨h, 1, none⟩ = some _ from (blk_cell Da.out.tg 1).trans rfl) (fun hHeld => ?_)
                  clear hK K
                  refine nm_ (some 63) ?_
                  refine on_ (i := 4) (N := some 64) HT_ (bl_ 8 31) rfl rfl (fun K hK => ?_)
                  refine value_ (w1 := ?_) (v := ?_) (by rfl) rfl ?_ ?_
                  rotate_left 2
                  · go_simp
                    constructor
                    · rfl
                    · rfl
                  refine hK.out _ _ (show World.cell? _ ⟨h, 1, none⟩ = some _ from (blk_cell (blk_on Da.out.tg (below_alloc (Below.refl _ _) _)) 1).trans rfl) (fun hHeld => ?_)
                  clear hK K
                  refine nm_ (some 64) ?_
                  refine on_ (i := 5) (N := some 65) HT_ (bl_ 8 63) rfl rfl (fun K hK => ?_)
                  (refine Kd.R_append_step Kd.string (w0 := wa) vp.heap.size (by rfl) (.tmp 61) (.tmp 64) 25 9 (.string ⟨#[]⟩) 16 rfl Try.underlying25 info9 rfl (by decide) (by decide) (.slice A acc.length d) acc y [.string y] (fun k_ => some k_ ≠ (.slice none 0 0 : Value).ownBlock ∧ some k_ ≠ (.slice none 0 0 : Value).ownBlock) (fun _ => False) rfl ?aX rfl (fun _ hk => hk.elim) (fun k hk => Da.out.own.fresh1 k hk) Da.out.own.1 (Below.refl _ _) ?aS ?aL ?_; (case aX => rfl); (case aS => exact Da.out.size); (case aL => have := HAC.out; omega); intro x_ wb hr_ hb_ hg_ hat_; rw [← HY.out] at hr_; obtain ⟨A', d', hx_⟩ := Kd.R_slice hr_; subst hx_; have HR3 := Lib.hid hr_; have HB3 := Lib.hid hb_; have HG3 := Lib.hid hg_; have HA3 := Lib.hid hat_; have z3 : World.cell? _ ⟨h, 1, none⟩ = some _ := (blk_cell ((hb_.block h Da.out.hp).trans Da.out.tg) 1).trans rfl; have f3 := blk_frozen ((hb_.block h Da.out.hp).trans Da.out.tg) 1; clear hr_ hb_ hg_ hat_)
                  refine hK.out _ _ z3 (fun hHeld => ?_)
                  clear hK K
                  refine nm_ (some 65) ?_
                  refine pu_ (i := 6) (N := some 66) HT_ (bl_ 8 127) ?_
                  refine last_ (i := 7) (N := none) #[true, true, true, true, true, true, true, true] rfl rfl (one_of HT_.out (by kernel_rfl)) (by decide) (fun K hK => ?_)
                  refine skip_ (w1 := ?_) (by rfl) rfl ?_ ?_
                  rotate_left
                  · go_simp
                    rfl
                  refine hK.out _ _ ?_
                  clear hK K
                  refine done_ (done_of HT_.out (by kernel_rfl)) ?_
                  obtain ⟨V4, hV4⟩ : ∃ V, V = wb.setCell ⟨h, 1, none⟩ (.slice A' y2.length d') := ⟨_, rfl⟩
                  rw [← hV4]
                  have D4 := Lib.hid (show Dc w wl vp V4 g h L ps' s.size { T0 with lang := x, ext := y2 } (.slice A' y2.length d') (.slice none 0 0) (.slice none 0 0) (.slice none 0 0) from by rw [hV4]; exact Da.out.app1 HB3.out HG3.out HA3.out HR3.out)
                  clear hV4 Da HB3 HG3 HA3 HR3 z3 f3
                  obtain ⟨A4, c4, i4, gi4, -, -, li4, -⟩ := D4.out.dr.rd
                  have GI4 := Lib.hid gi4
                  have z4 : World.cell? V4 ⟨g, 1, none⟩ = some (.int .i64 (i4 : Int)) := (blk_cell gi4 1).trans rfl
                  have f4 := blk_frozen gi4 1
                  have y4 : wrap64 ((i4 : Int) + 1) = (i4 : Int) + 1 := by have := D4.out.dr.few; unfold wrap64; omega
                  clear gi4 li4
                  go_wp2
                  have st := dc_next D4.out HP'.out GI4.out
                  have la := HYS.out
                  have l0 := hR.out.l
                  have t0 := hR.out.t
                  have n0 := hR.out.n
                  rw [HP'.out] at l0 t0
                  rw [la.1, ← HP'.out, ← SY.out] at l0
                  rw [la.2] at t0
                  refine ⟨⟨m, t', y2, _, Lib.hid ⟨st, by rw [HY.out, List.append_assoc]; exact l0, t0, by rw [HY.out, List.length_append, List.length_singleton]; omega, fun h => absurd k3 h⟩⟩, ?_⟩
                  rw [st.dr.left, hR.out.dc.dr.left, HP'.out]
                  exact Nat.lt_succ_self _
                · have cf : isExtl (bl y) = false := by simpa using cx
                  have HYS := Lib.hid (extL_no (n := m + 1) (show isExtl (bl (hereB ps')) = false by rw [← hy]; exact cf))
                  rw [cf] at EX
                  clear cx cf hy
                  go_wp2_with (first | (go_at_call 50; refine (here07_calls D1.out.dr).mono ?_; rw [← SY.out]; rintro e w2 ⟨rfl, hb⟩; dsimp only; have D2 := Lib.hid (D1.out.step hb); clear hb D1) | (go_at_call 49; refine (EX.out _).mono ?_; rintro e w3 ⟨rfl, hb⟩; dsimp only; have D3 := Lib.hid (D2.out.step hb); clear hb D2))
                  go_meet
                  case rel =>
                    have la : lx = acc := by rw [HLX.out, if_pos k3, hR.out.l, HYS.out.1, List.append_nil]
                    have pa : pt = ps' := by rw [HPT.out, if_pos k3, hR.out.t, HYS.out.2]
                    rw [la, pa]
                    exact ⟨_, D3⟩
              · have c4 : decide ((acc.length : Int) < 3) = false := decide_eq_false (by omega)
                have c5 : ¬ ((acc.length : Int) < 3) := by omega
                obtain rfl : n = 0 := by have := hR.out.n; omega
                go_wp2
                go_meet
                case rel =>
                  have la : lx = acc := by rw [HLX.out, if_pos k3, hR.out.l]; exact List.append_nil _
                  have pa : pt = ps' := by rw [HPT.out, if_pos k3, hR.out.t]; rfl
                  rw [la, pa]
                  exact ⟨_, D1⟩
            · have k4 : decide ((x.size : Int) ≤ 3) = false := decide_eq_false (by omega)
              have k5 : ¬ ((x.size : Int) ≤ 3) := by omega
              go_wp2
              go_meet
              case rel =>
                have la : lx = acc := by rw [HLX.out, if_neg k3]; exact ((hR.out.z k3).1).symm
                have pa : pt = ps' := by rw [HPT.out, if_neg k3]; exact ((hR.out.z k3).2).symm
                rw [la, pa]
                exact ⟨_, D1⟩
        case rest =>
          obtain ⟨u1, D1⟩ := hcut
          clear D9 HLX HPT nx1 nx2 nx3
          obtain ⟨y, hy⟩ : ∃ y, y = hereB pt := ⟨_, rfl⟩
          have SY := Lib.hid hy
          have KF := Lib.hid (fun W : World => scr06 y (by rw [hy]; exact here_size pt) W)
          clear hy
          go_upto_if 77 with (first | (go_at_call 50; refine (here07_calls D1.out.dr).mono ?_; rw [← SY.out]; rintro e w2 ⟨rfl, hb⟩; dsimp only; have D2 := Lib.hid (D1.out.step hb); clear hb D1) | (go_at_call 46; refine (KF.out _).mono ?_; rintro e w3 ⟨rfl, hb⟩; dsimp only; have D3 := Lib.hid (D2.out.step hb); clear hb D2))
          go_cut [6, 76, 77] (fun _ _ _ wc => Hid (Dc w wl vp wc g h L (oneT qScr pt) s.size { T0 with lang := x, ext := lx, script := (oneV qScr pt) } u1 (.slice none 0 0) (.slice none 0 0) (.slice none 0 0)))
          case first =>
            by_cases cs : qScr y = true
            · rw [cs]
              obtain ⟨p', t', hps'⟩ := q_cons (q := qScr) (by decide) (show qScr (hereB pt) = true from by rw [← SY.out]; exact cs)
              have HP' := Lib.hid hps'
              obtain ⟨o1, o2⟩ := one_yes (q := qScr) (by decide) hps' (by rw [← SY.out]; exact cs)
              rw [← SY.out] at o2
              have O1 := Lib.hid o1
              have O2 := Lib.hid o2
              clear cs hps' o1 o2
              go_upto_region 17 with (go_at_call 50; refine (here07_calls D3.out.dr).mono ?_; rw [← SY.out]; rintro e w4 ⟨rfl, hb⟩; dsimp only; have D4 := Lib.hid (D3.out.step hb); have f4 := blk_frozen D4.out.tg 2; have k4 : w4.cell? ⟨h, 2, none⟩ = some (.string ⟨#[]⟩) := (blk_cell D4.out.tg 2).trans rfl; clear hb D3)
              obtain ⟨V5, hV5⟩ : ∃ V, V = w4.setCell ⟨h, 2, none⟩ (.string y) := ⟨_, rfl⟩
              rw [← hV5]
              have D5 := Lib.hid (show Dc w wl vp V5 g h L pt s.size { T0 with lang := x, ext := lx, script := y } u1 (.slice none 0 0) (.slice none 0 0) (.slice none 0 0) from by rw [hV5]; exact D4.out.putS 2 (.string y) ({ T0 with lang := x, ext := lx, script := y }) rfl rfl rfl rfl rfl)
              clear hV5 D4 f4 k4
              obtain ⟨A5, c5, i5, gi5, -, -, li5, -⟩ := D5.out.dr.rd
              have GI5 := Lib.hid gi5
              have z5 : World.cell? V5 ⟨g, 1, none⟩ = some (.int .i64 (i5 : Int)) := (blk_cell gi5 1).trans rfl
              have f5 := blk_frozen gi5 1
              have y5 : wrap64 ((i5 : Int) + 1) = (i5 : Int) + 1 := by have := D5.out.dr.few; unfold wrap64; omega
              clear gi5 li5
              go_wp2
              go_meet
              case rel =>
                rw [O1.out, O2.out]
                exact Lib.hid (dc_next D5.out HP'.out GI5.out)
            · have cf : qScr y = false := by simpa using cs
              rw [cf]
              obtain ⟨o1, o2⟩ := one_no (q := qScr) (by decide) (show qScr (hereB pt) = false from by rw [← SY.out]; exact cf)
              have O1 := Lib.hid o1
              have O2 := Lib.hid o2
              clear cs cf o1 o2
              go_wp2
              go_meet
              case rel =>
                rw [O1.out, O2.out]
                exact D3
          case rest =>
            clear D3 SY KF
            have D1 := hcut
            clear hcut
            obtain ⟨p2, hp2⟩ : ∃ l, l = oneT qScr pt := ⟨_, rfl⟩
            obtain ⟨sv, hsv⟩ : ∃ l, l = oneV qScr pt := ⟨_, rfl⟩
            rw [← hp2, ← hsv] at D1
            have Hp2 := Lib.hid hp2
            have Hsv := Lib.hid hsv
            clear hp2 hsv
            obtain ⟨y, hy⟩ : ∃ y, y = hereB p2 := ⟨_, rfl⟩
            have SY := Lib.hid hy
            have KF := Lib.hid (fun W : World => reg06 y (by rw [hy]; exact here_size p2) W)
            clear hy
            go_upto_if 91 with (first | (go_at_call 50; refine (here07_calls D1.out.dr).mono ?_; rw [← SY.out]; rintro e w2 ⟨rfl, hb⟩; dsimp only; have D2 := Lib.hid (D1.out.step hb); clear hb D1) | (go_at_call 47; refine (KF.out _).mono ?_; rintro e w3 ⟨rfl, hb⟩; dsimp only; have D3 := Lib.hid (D2.out.step hb); clear hb D2))
            go_cut [7, 90, 91] (fun _ _ _ wc => Hid (Dc w wl vp wc g h L (oneT qReg p2) s.size { T0 with lang := x, ext := lx, script := sv, region := (oneV qReg p2) } u1 (.slice none 0 0) (.slice none 0 0) (.slice none 0 0)))
            case first =>
              by_cases cs : qReg y = true
              · rw [cs]
                obtain ⟨p', t', hps'⟩ := q_cons (q := qReg) (by decide) (show qReg (hereB p2) = true from by rw [← SY.out]; exact cs)
                have HP' := Lib.hid hps'
                obtain ⟨o1, o2⟩ := one_yes (q := qReg) (by decide) hps' (by rw [← SY.out]; exact cs)
                rw [← SY.out] at o2
                have O1 := Lib.hid o1
                have O2 := Lib.hid o2
                clear cs hps' o1 o2
                go_upto_region 21 with (go_at_call 50; refine (here07_calls D3.out.dr).mono ?_; rw [← SY.out]; rintro e w4 ⟨rfl, hb⟩; dsimp only; have D4 := Lib.hid (D3.out.step hb); have f4 := blk_frozen D4.out.tg 3; have k4 : w4.cell? ⟨h, 3, none⟩ = some (.string ⟨#[]⟩) := (blk_cell D4.out.tg 3).trans rfl; clear hb D3)
                obtain ⟨V5, hV5⟩ : ∃ V, V = w4.setCell ⟨h, 3, none⟩ (.string y) := ⟨_, rfl⟩
                rw [← hV5]
                have D5 := Lib.hid (show Dc w wl vp V5 g h L p2 s.size { T0 with lang := x, ext := lx, script := sv, region := y } u1 (.slice none 0 0) (.slice none 0 0) (.slice none 0 0) from by rw [hV5]; exact D4.out.putS 3 (.string y) ({ T0 with lang := x, ext := lx, script := sv, region := y }) rfl rfl rfl rfl rfl)
                clear hV5 D4 f4 k4
                obtain ⟨A5, c5, i5, gi5, -, -, li5, -⟩ := D5.out.dr.rd
                have GI5 := Lib.hid gi5
                have z5 : World.cell? V5 ⟨g, 1, none⟩ = some (.int .i64 (i5 : Int)) := (blk_cell gi5 1).trans rfl
                have f5 := blk_frozen gi5 1
                have y5 : wrap64 ((i5 : Int) + 1) = (i5 : Int) + 1 := by have := D5.out.dr.few; unfold wrap64; omega
                clear gi5 li5
                go_wp2
                go_meet
                case rel =>
                  rw [O1.out, O2.out]
                  exact Lib.hid (dc_next D5.out HP'.out GI5.out)
              · have cf : qReg y = false := by simpa using cs
                rw [cf]
                obtain ⟨o1, o2⟩ := one_no (q := qReg) (by decide) (show qReg (hereB p2) = false from by rw [← SY.out]; exact cf)
                have O1 := Lib.hid o1
                have O2 := Lib.hid o2
                clear cs cf o1 o2
                go_wp2
                go_meet
                case rel =>
                  rw [O1.out, O2.out]
                  exact D3
            case rest =>
              clear D3 SY KF
              have D1 := hcut
              clear hcut
              obtain ⟨p3, hp3⟩ : ∃ l, l = oneT qReg p2 := ⟨_, rfl⟩
              obtain ⟨rv, hrv⟩ : ∃ l, l = oneV qReg p2 := ⟨_, rfl⟩
              rw [← hp3, ← hrv] at D1
              have Hp3 := Lib.hid hp3
              have Hrv := Lib.hid hrv
              clear hp3 hrv
              apply_assumption
              exact doc_mid s w wl vp g h L HF.out HN3.out r _ x lx sv rv pt p2 p3 u1 D1.out Hp2.out Hsv.out Hp3.out Hrv.out HMD.out _ (fun u5 u6 u7 u8 u9 u10 u11 u12 u13 u14 u15 u16 u17 u18 u19 u20 u21 u22 u23 u24 u25 u26 u27 u28 u29 u30 u31 u32 u33 u34 u35 u36 u37 u38 u39 u40 u41 u42 u43 u44 u45 u46 u47 u48 u49 u50 u51 u52 u53 u54 u55 u56 u57 u58 u59 u60 u61 u62 u63 u64 u65 u66 u67 u68 u69 u70 u71 u72 u73 u74 u75 u76 u77 u78 u79 u80 u81 u82 u83 u84 u85 u86 u87 u88 u89 u90 u91 u92 u93 u94 u95 u96 u97 u98 u99 u100 u101 u102 u103 u104 u105 u106 u107 u108 u109 u110 u111 u112 u113 u114 u115 u116 u117 u118 u119 u120 u121 u122 u123 u124 u125 u126 u127 u128 u129 u130 u131 u132 u133 u134 u135 u136 u137 u138 u139 u140 u141 u142 u143 u144 u145 u146 u147 u148 u149 u150 u151 u152 u153 u154 u155 u156 u157 u158 u159 u160 u161 u162 u163 u164 u165 u166 u167 u168 u169 u170 u171 u172 u173 u174 u175 u176 u177 u178 u179 u180 u181 u182 u183 u184 u185 u186 u187 u188 u189 u190 u191 u192 u193 u194 u195 u196 u197 u198 u199 u200 u201 u202 u203 u204 u205 u206 u207 u208 u209 u210 u211 u212 u213 u214 W ps T v1 v4 v5 d p t => by unfold docAct; dsimp only; go_wp2; go_meet; case rel => exact ⟨ps, T, v1, v4, v5, Lib.hid d, Lib.hid p, Lib.hid t⟩) _ _ _ _ _ _ _ _ _ _ _ _ _ _ _ _ _ _ _ _ _ _ _ _ _ _ _ _ _ _ _ _ _ _ _ _ _ _ _ _ _ _ _ _ _ _ _ _ _ _ _ _ _ _ _ _ _ _ _ _ _ _ _ _ _ _ _ _ _ _ _ _ _ _ _ _ _ _ _ _ _ _ _ _ _ _ _ _ _ _ _ _ _ _ _ _ _ _ _ _ _ _ _ _ _ _ _ _ _ _ _ _ _ _ _ _ _ _ _ _ _ _ _ _ _ _ _ _ _ _ _ _ _ _ _ _ _ _ _ _ _ _ _ _ _ _ _ _ _ _ _ _ _ _ _ _ _ _ _ _ _ _ _ _ _ _ _ _ _ _ _ _ _ _ _ _ _ _ _ _ _ _ _ _ _ _ _ _ _ _ _ _ _ _ _ _ _ _ _ _ _ _ _ _ _ _ _ _ _ _
      · have cf : Iso.isLang (bl x) = false := by simpa using cl
        rw [cf] at LA
        have h0 := HR.out
        rw [allR, ← SX.out, if_neg cx, one_q (q := qLang) (by decide), ← SX.out, if_neg (show ¬ qLang x = true from by rw [show qLang x = false from cf]; decide)] at h0
        have HBAD := Lib.hid h0.symm
        clear h0 cx cl cf
        go_wp2_with (first | (go_at_call 50; refine (here07_calls D4.out.dr).mono ?_; rw [← SX.out]; rintro e w5 ⟨rfl, hb⟩; dsimp only; have D5 := Lib.hid (D4.out.step hb); clear hb D4) | (go_at_call 45; refine (LA.out _).mono ?_; rintro e w6 ⟨rfl, hb⟩; dsimp only; have D6 := Lib.hid (D5.out.step hb); clear hb D5) | (go_at_call 51; refine (wrong07_calls D6.out.dr).mono ?_; rintro e w7 ⟨rfl, hb⟩; dsimp only; have D7 := Lib.hid (D6.out.step hb); obtain ⟨⟨k0, k1, k2, k3, k4, k5, k6, k7, k8, k9, k10⟩, ⟨f0, f1, f2, f3, f4, f5, f6, f7, f8, f9, f10⟩⟩ := cells11p (blk_on HN3.out D7.out.dr.blw); clear hb D6))
        exact doc_bad D7.out HN3.out 10 _ _ HBAD.out rfl
  case rest =>
    obtain ⟨ps, T, v1, v4, v5, D1, HPV, HTL⟩ := hcut
    apply_assumption
    exact doc_tail s w wl vp g h L HF.out HN3.out r _ ps T v1 v4 v5 D1.out HPV.out HTL.out _ _ _ _ _ _ _ _ _ _ _ _ _ _ _ _ _ _ _ _ _ _ _ _ _ _ _ _ _ _ _ _ _ _ _ _ _ _ _ _ _ _ _ _ _ _ _ _ _ _ _ _ _ _ _ _ _ _ _ _ _ _ _ _ _ _ _ _ _ _ _ _ _ _ _ _ _ _ _ _ _ _ _ _ _ _ _ _ _ _ _ _ _ _ _ _ _ _ _ _ _ _ _ _ _ _ _ _ _ _ _ _ _ _ _ _ _ _ _ _ _ _ _ _ _ _ _ _ _ _ _ _ _ _ _ _ _ _ _ _ _ _ _ _ _ _ _ _ _ _ _ _ _ _ _ _ _ _ _ _ _ _ _ _ _ _ _ _ _ _ _ _ _ _ _ _ _ _ _ _ _ _ _ _ _ _ _ _ _ _ _ _ _ _ _ _ _ _ _ _ _ _ _ _ _ _ _ _ _ _
set_option maxRecDepth 100000 in
set_option maxHeartbeats 4000000 in
theorem doc_grand (s : ByteArray) (hs : s.size ≤ 900000) (w : World) (z : Int) (hz : decide (z ≥ 0) = true)
    (FI : ∀ W, Calls Try.prog 43 #[.string s] W fun e W' => e = .returned (.int .i64 z) ∧ Below W.heap.size W W') :
    Calls Try.prog 18 #[.string s] w fun e W' => GotSaid w (.good { T0 with grand := mk (low (bl s)) }) e W' := by
  have HFI := Lib.hid FI
  have hz1 : 0 ≤ z := by simpa using hz
  have HLO := Lib.hid (fun W : World => lower02_calls s (by omega) W)
  obtain ⟨x, hx⟩ : ∃ x, x = mk (low (bl s)) := ⟨_, rfl⟩
  rw [← hx] at HLO ⊢
  have HB1 := Lib.hid (below_alloc (Below.refl w.heap.size w) (.cells z0Got 40))
  have HN1 := Lib.hid (new_blk w (.cells z0Got 40))
  clear FI hx
  go_enter Try.func18, Try.ntmps18
  go_wp2_with (first
    | (go_at_call 43; refine (HFI.out _).mono ?_; rintro e w2 ⟨rfl, hb⟩; dsimp only; have HB2 := Lib.hid (below_step HB1.out hb); have HN2 := Lib.hid (blk_on HN1.out hb); clear hb HB1 HN1 HFI)
    | (go_at_call 12; refine (HLO.out _).mono ?_; rintro e w3 ⟨rfl, hb⟩; dsimp only; have HB3 := Lib.hid (below_step HB2.out hb); have HN3 := Lib.hid (blk_on HN2.out hb); obtain ⟨⟨k0, k1, k2, k3, k4, k5, k6, k7, k8, k9, k10⟩, ⟨f0, f1, f2, f3, f4, f5, f6, f7, f8, f9, f10⟩⟩ := cells11p HN3.out; clear hb HB2 HN2 HLO))
  refine bodyPost_ret (results_cell_row rfl _ _ w.heap.size 40 (#[.string ⟨#[]⟩, .slice none 0 0, .string ⟨#[]⟩, .string ⟨#[]⟩, .slice none 0 0, .slice none 0 0, .slice none 0 0, .string x, .int .i64 0, .int .i64 0, .string ⟨#[]⟩]) (0, 0) _ rfl (put11 HN3.out _ _ _ _ _ _ _ _ _ _ _) Try.underlying40 rfl (by kernel_rfl)) rfl ?_
  exact ⟨below11 HB3.out (Nat.le_refl _) _ _ _ _ _ _ _ _ _ _ _, none, 0, none, 0, none, 0, none, 0, rfl, ⟨C_none _ _ _, C_none _ _ _, ⟨⟨rfl, Nat.zero_le _, fun h => absurd h (Nat.lt_irrefl _)⟩, Nat.le_refl _⟩, C_none _ _ _⟩, Kd.R_nil _ _ _ _ _, Kd.R_nil _ _ _ _ _, Kd.S_nil _ _ _ _ _, Kd.R_nil _ _ _ _ _⟩
theorem doc_calls (s : ByteArray) (hs : s.size ≤ 900000) (w : World) : Calls Try.prog 18 #[.string s] w fun e W' => GotSaid w (parseR s) e W' := by
  obtain ⟨z, hz, h1, h2⟩ := find_ev s (by omega)
  obtain ⟨k, hk⟩ := hz.rounds
  have FI := fun W => r5_Find.calls k s z W hk
  rw [← isGrand_name] at h1
  unfold parseR
  cases g : isGrand s with
  | true =>
    rw [if_pos rfl]
    exact doc_grand s hs w z (h1.trans g) FI
  | false =>
    rw [if_neg (by decide)]
    obtain ⟨k2, hk2⟩ := (ref_Each_ev s (by omega)).rounds
    refine doc_plain s w _ ?_ ?_ z (h1.trans g) _ (by rw [each_low]) FI (fun W => r4_Each.calls k2 s _ W hk2)
    · have := eachB_len s
      unfold eachB at this
      rw [List.length_map] at this ⊢
      omega
    · intro p hp
      obtain ⟨q, hq, rfl⟩ := List.mem_map.1 hp
      have := eachB_size s (q.1, mk q.2) (by unfold eachB; exact List.mem_map_of_mem (f := fun p : Nat × Str => (p.1, Iso.mk p.2)) hq)
      show (mk q.2).size ≤ 1000000
      have h := this
      dsimp only at h
      omega
end Go.Proofs.Ytojglflamecnkaa.P
