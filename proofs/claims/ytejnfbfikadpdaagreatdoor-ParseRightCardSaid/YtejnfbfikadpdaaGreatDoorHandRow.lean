/- row, some of parse's reader, walked: at the functions that they are given. -/
import Derived.Test.YtejnfbfikadpdaaGreatDoorHandOne
namespace Go.Proofs.YtejnfbfikadpdaaGreatDoor.P
open Go.RowKit Go.Shelf Go.Proofs.YtejnfbfikadpdaaGreatDoorW.PrintWords Go.Proofs.YtejnfbfikadpdaaGreatDoor.Iso
set_option linter.unusedVariables false
set_option linter.unusedSimpArgs false
def rowL (q : ByteArray → Bool) : List PieceR → List ByteArray
  | [] => []
  | p :: t => if oneB q (p :: t) then hereB (p :: t) :: rowL q t else []
def rowT (q : ByteArray → Bool) : List PieceR → List PieceR
  | [] => []
  | p :: t => if oneB q (p :: t) then rowT q t else p :: t
theorem rowL_no {q : ByteArray → Bool} {ps : List PieceR} (h : oneB q ps = false) : rowL q ps = [] ∧ rowT q ps = ps := by
  cases ps with
  | nil => exact ⟨rfl, rfl⟩
  | cons p t => exact ⟨by unfold rowL; rw [h]; rfl, by unfold rowT; rw [h]; rfl⟩
theorem rowL_len (q : ByteArray → Bool) : ∀ ps : List PieceR, (rowL q ps).length + (rowT q ps).length = ps.length
  | [] => rfl
  | p :: t => by
    unfold rowL rowT
    split
    · have := rowL_len q t
      simp only [List.length_cons]; omega
    · simp
def leftAt (W : World) (g : Nat) : Nat := match W.cell? ⟨g, 0, none⟩ with
  | some (.slice _ n _) => n
  | _ => 0
theorem Rd.left {w0 wp W : World} {g : Nat} {ps : List PieceR} {E : Int} {T : TG} {v1 v4 v5 v6 : Value} (h : Rd w0 wp W g ps E T v1 v4 v5 v6) : leftAt W g = ps.length := by
  obtain ⟨A, c, hg, _⟩ := h.cells
  unfold leftAt
  have e : W.cell? ⟨g, 0, none⟩ = some (.slice A ps.length c) := (blk_cell hg 0).trans rfl
  rw [e]
structure RowAt (q : ByteArray → Bool) (w0 wp W wr : World) (g : Nat) (ps0 ps : List PieceR) (E : Int) (T : TG) (v1 v4 v5 v6 v : Value) (acc : List ByteArray) : Prop where
  rd : Rd w0 wp wr g ps E T v1 v4 v5 v6
  keep : KeepBut W wr g none
  row : Kd.R Kd.string 9 wr W.heap.size (fun _ => True) v acc
  l : rowL q ps0 = acc ++ rowL q ps
  t : rowT q ps0 = rowT q ps
  n : acc.length + ps.length ≤ ps0.length
theorem R_keepG {W W' : World} {g : Nat} {cells : Array Value} {base : Nat} {v : Value} {xs : List ByteArray} (h : Kd.R Kd.string 9 W base (fun _ => True) v xs) (hb : W.heap[g]? = some (.cells cells 70 (0, 0))) (hk : KeepBut W W' g none) : Kd.R Kd.string 9 W' base (fun _ => True) v xs :=
  Kd.R_mono (Kd.R_keep (Kd.R_types h hb (by decide)) hk (fun _ h => h.2)) (fun _ _ => trivial)
theorem RowAt.step {q : ByteArray → Bool} {w0 wp W wr w2 w3 : World} {g : Nat} {ps0 ps : List PieceR} {E : Int} {T : TG} {v1 v4 v5 v6 v x : Value} {acc : List ByteArray} {p : PieceR} {t : List PieceR}
    (h0 : Rd w0 wp W g ps0 E T v1 v4 v5 v6) (h : RowAt q w0 wp W wr g ps0 ps E T v1 v4 v5 v6 v acc) (hps : ps = p :: t) (ho : oneB q ps = true) (h2 : Rd w0 wp w2 g t E T v1 v4 v5 v6) (k2 : KeepBut wr w2 g none)
    (hb : Below W.heap.size w2 w3) (hr : Kd.R Kd.string 9 w3 W.heap.size (fun _ => True) x (acc ++ [hereB ps])) : RowAt q w0 wp W w3 g ps0 t E T v1 v4 v5 v6 x (acc ++ [hereB ps]) := by
  have kk : KeepBut W w2 g none := h.keep.trans k2 (.inl rfl)
  have hgW : g < W.heap.size := Nat.lt_of_lt_of_le h0.hi h0.size
  have k3 : KeepBut W w3 g none := ⟨Nat.le_trans kk.1 hb.size, fun i hi hne hr => (hb.block i hi).trans (kk.2 i hi hne hr)⟩
  have b3 : Below w0.heap.size w0 w3 := h2.below.trans (below_lower hb (Nat.le_trans h0.lo (Nat.le_of_lt hgW)))
  obtain ⟨A, c, hg, hc, hp⟩ := h2.cells
  subst hps
  refine ⟨h0.again k3 b3 ⟨A, c, (hb.block g hgW).trans hg, hc, hp⟩, k3, hr, ?_, ?_, ?_⟩
  · rw [h.l]
    conv => lhs; rw [rowL]
    rw [if_pos ho, List.append_assoc, List.singleton_append]
  · rw [h.t]
    conv => lhs; rw [rowT]
    rw [if_pos ho]
  · have := h.n
    rw [List.length_append, List.length_singleton]
    rw [List.length_cons] at this
    omega
set_option maxRecDepth 100000 in
set_option maxHeartbeats 4000000 in
theorem rowTwo {w0 wp W : World} {g : Nat} {ps : List PieceR} {E : Int} {T : TG} {v1 v4 v5 v6 : Value} (h : Rd w0 wp W g ps E T v1 v4 v5 v6) {q : ByteArray → Bool} (hq : SoIs 125 q) (hn : ps.length ≤ 1000000) :
    Calls Tryz.prog 126 #[.pointer (some ⟨g, 0, none⟩), .func (.func 125) #[] #[]] W fun e W' => ∃ v, e = .returned v ∧ Kd.R Kd.string 9 W' W.heap.size (fun _ => True) v (rowL q ps) ∧ Rd w0 wp W' g (rowT q ps) E T v1 v4 v5 v6 ∧ KeepBut W W' g none := by
  have HQ := Lib.hid hq
  have HL := Lib.hid hn
  have R0 := Lib.hid (show RowAt q w0 wp W W g ps ps E T v1 v4 v5 v6 (.slice none 0 0) [] from ⟨h, KeepBut.refl W g none, Kd.R_nil _ _ _ _ _, rfl, rfl, by simp⟩)
  have HH := Lib.hid h
  clear hq hn h
  go_enter Tryz.func126, Tryz.ntmps126
  go_wp2
  go_loopw [5] (fun v wr => ∃ (ps' : List PieceR) (acc : List ByteArray), Hid (RowAt q w0 wp W wr g ps ps' E T v1 v4 v5 v6 v acc)) (fun _ wr => leftAt wr g)
  case atStart => exact ⟨ps, [], R0⟩
  case round =>
    obtain ⟨ps', acc, hR⟩ := hrel
    by_cases c : (hereB ps').toList.isEmpty = true
    · have HS := Lib.hid (here_none c)
      have HO := Lib.hid (show oneB q ps' = false by unfold oneB; rw [c]; rfl)
      clear c R0
      go_wp2_with (go_at_call 76; refine (here_calls hR.out.rd).mono ?_; rw [HS.out]; rintro e w2 ⟨rfl, ⟨nd, rfl⟩⟩)
      go_ret
      obtain ⟨n1, n2⟩ := rowL_no HO.out
      have l1 := hR.out.l
      have t1 := hR.out.t
      rw [n1, List.append_nil] at l1
      rw [n2] at t1
      exact ⟨_, rfl, by rw [l1]; exact hR.out.row, by rw [t1]; exact hR.out.rd.drewN nd, hR.out.keep⟩
    · have c1 : (hereB ps').toList.isEmpty = false := by simpa using c
      obtain ⟨p, t, hps, h1, h2, h3⟩ := here_ne c1
      have HP := Lib.hid hps
      have HB := Lib.hid (HQ.out (hereB ps') (here_size ps'))
      obtain ⟨s, hs⟩ : ∃ s, s = hereB ps' := ⟨_, rfl⟩
      have HS := Lib.hid hs
      have hn : ¬ (s.toList = ([] : List UInt8)) := by rw [hs]; exact fun e => by rw [e] at c1; cases c1
      have hn1 : (s.toList == ([] : List UInt8)) = false := beq_eq_false_iff_ne.2 hn
      have hn2 : (s.toList != ([] : List UInt8)) = true := bne_iff_ne.2 hn
      rw [← hs] at c1 HB
      have hn3 : (!s.toList.isEmpty) = true := by rw [c1]; rfl
      by_cases hqq : q s = true
      · have HO := Lib.hid (show oneB q ps' = true by unfold oneB; rw [← hs, c1, hqq]; rfl)
        rw [hqq] at HB
        have hAC : acc.length ≤ 1000000 := by have := hR.out.n; have := HL.out; omega
        have HAC := Lib.hid hAC
        obtain ⟨A, d, hu⟩ := Kd.R_slice hR.out.row
        subst hu
        have HWZ := Lib.hid hR.out.keep.1
        clear c h1 h2 h3 hps hs hqq hAC R0
        go_wp2_with (first | (go_at_call 76; refine (here_calls (by first | exact hR.out.rd | exact hR.out.rd.drewN _)).mono ?_; rw [← HS.out]; rintro e w2 ⟨rfl, ⟨nd, rfl⟩⟩) | (go_at_call 125; refine (HB.out _).mono ?_; rintro e w2 ⟨rfl, ⟨nd, rfl⟩⟩) | (go_at_call 83; refine (take_calls (by first | exact hR.out.rd.drewN _) HP.out).mono ?_; rw [← HS.out]; rintro e w2 ⟨rfl, hRd, hK⟩; have HRd := Lib.hid hRd; have HK := Lib.hid hK; clear hRd hK) | (at_builtin; refine Kd.R_append Kd.string (w0 := w2) W.heap.size rfl (.tmp 15) (.tmp 18) 26 9 (.string ⟨#[]⟩) 16 rfl Tryz.underlying26 info9 rfl (by decide) (by decide) (.slice A acc.length d) acc s [.string s] (fun _ => True) (fun _ => False) rfl rfl ?aP (fun _ hk => hk.elim) ?aF ?aO ?aB ?aS ?aL ?_; (case aP => exact rfl); (case aF => exact fun _ _ => trivial); (case aO => exact R_keepG hR.out.row hR.out.rd.blk.choose_spec HK.out); (case aB => exact Below.refl _ _); (case aS => exact Nat.le_trans HWZ.out HK.out.1); (case aL => have := HAC.out; omega); intro x w3 hr hb hg hat; have HX := Lib.hid hr; have HBB := Lib.hid hb; clear hr hb hg hat))
        have st := RowAt.step HH.out hR.out HP.out HO.out HRd.out HK.out HBB.out (by rw [← HS.out]; exact HX.out)
        refine ⟨⟨t, _, Lib.hid st⟩, ?_⟩
        · have e1 := st.rd.left
          have e2 := hR.out.rd.left
          have e3 := HP.out
          rw [e3] at e2
          rw [e1, e2]
          exact Nat.lt_succ_self _
      · have hqf : q s = false := by simpa using hqq
        have HO := Lib.hid (show oneB q ps' = false by unfold oneB; rw [← hs, hqf, Bool.and_false])
        rw [hqf] at HB
        clear c h1 h2 h3 hps hs hqq hqf R0
        go_wp2_with (first | (go_at_call 76; refine (here_calls (by first | exact hR.out.rd | exact hR.out.rd.drewN _)).mono ?_; rw [← HS.out]; rintro e w2 ⟨rfl, ⟨nd, rfl⟩⟩) | (go_at_call 125; refine (HB.out _).mono ?_; rintro e w2 ⟨rfl, ⟨nd, rfl⟩⟩))
        go_ret
        obtain ⟨n1, n2⟩ := rowL_no HO.out
        have l1 := hR.out.l
        have t1 := hR.out.t
        rw [n1, List.append_nil] at l1
        rw [n2] at t1
        exact ⟨_, rfl, by rw [l1]; exact hR.out.row, by rw [t1]; exact hR.out.rd.drewN _, hR.out.keep⟩
set_option maxRecDepth 100000 in
set_option maxHeartbeats 4000000 in
/-- some: of which there must be one. -/
theorem someTwo {w0 wp W : World} {g : Nat} {ps : List PieceR} {E : Int} {T : TG} {v1 v4 v5 v6 : Value} (h : Rd w0 wp W g ps E T v1 v4 v5 v6) {q : ByteArray → Bool} (hq : SoIs 125 q) (hn : ps.length ≤ 1000000) :
    Calls Tryz.prog 84 #[.pointer (some ⟨g, 0, none⟩), .func (.func 125) #[] #[]] W fun e W' =>
      (rowL q ps ≠ [] ∧ ∃ v, e = .returned v ∧ Kd.R Kd.string 9 W' W.heap.size (fun _ => True) v (rowL q ps) ∧ Rd w0 wp W' g (rowT q ps) E T v1 v4 v5 v6 ∧ KeepBut W W' g none) ∨
      (rowL q ps = [] ∧ Bad g W 10 (stopE E (rowT q ps)).1 (stopE E (rowT q ps)).2 e W' ∧ BadK w0 wp g W') := by
  have HC := Lib.hid (rowTwo h hq hn)
  have HW0 := Lib.hid (show w0.heap.size ≤ W.heap.size from Nat.le_trans h.lo (Nat.le_of_lt (Nat.lt_of_lt_of_le h.hi h.size)))
  clear hq hn h
  by_cases c : rowL q ps = []
  · rw [c] at HC ⊢
    go_enter Tryz.func84, Tryz.ntmps84
    go_wp2_with (first | (go_at_call 126; refine HC.out.mono ?_; rintro e w2 ⟨v, rfl, hr, hRd, hK⟩; obtain ⟨A, d, hv⟩ := Kd.R_slice hr; subst hv; have HRd := Lib.hid hRd; have HK := Lib.hid hK; clear hr hRd hK) | (go_at_call 86; refine (stop_calls HRd.out).mono ?_; rintro e w3 ⟨⟨B, rfl, hF, hB⟩, hb⟩; have HF := Lib.hid hF; have HB := Lib.hid hB; have HBW := Lib.hid hb; clear hF hB hb))
    exact ⟨rfl, Or.inr ⟨by first | rfl | trivial, ⟨_, rfl, HF.out, Nat.le_trans HK.out.1 HB.out⟩, HRd.out.badK HBW.out⟩⟩
  · have hl : 0 < (rowL q ps).length := List.length_pos_iff.2 c
    obtain ⟨n, hn⟩ : ∃ n, n = (rowL q ps).length := ⟨_, rfl⟩
    have HN := Lib.hid hn
    have HCC := Lib.hid c
    have q0 : ((n : Int) == 0) = false := by rw [beq_eq_false_iff_ne]; omega
    clear hl hn c
    go_enter Tryz.func84, Tryz.ntmps84
    go_wp2_with (go_at_call 126; refine HC.out.mono ?_; rintro e w2 ⟨v, rfl, hr, hRd, hK⟩; obtain ⟨A, d, hv⟩ := Kd.R_slice hr; have HR := Lib.hid hr; have HV := Lib.hid hv; rw [← HN.out] at hv; subst hv; have HRd := Lib.hid hRd; have HK := Lib.hid hK; clear hr hRd hK)
    go_ret
    exact Or.inl ⟨HCC.out, _, rfl, HR.out, HRd.out, HK.out⟩
set_option maxRecDepth 100000 in
set_option maxHeartbeats 4000000 in
theorem rowAny {w0 wp W : World} {g : Nat} {ps : List PieceR} {E : Int} {T : TG} {v1 v4 v5 v6 : Value} (h : Rd w0 wp W g ps E T v1 v4 v5 v6) {q : ByteArray → Bool} (hq : SoIs 85 q) (hn : ps.length ≤ 1000000) :
    Calls Tryz.prog 126 #[.pointer (some ⟨g, 0, none⟩), .func (.func 85) #[] #[]] W fun e W' => ∃ v, e = .returned v ∧ Kd.R Kd.string 9 W' W.heap.size (fun _ => True) v (rowL q ps) ∧ Rd w0 wp W' g (rowT q ps) E T v1 v4 v5 v6 ∧ KeepBut W W' g none := by
  have HQ := Lib.hid hq
  have HL := Lib.hid hn
  have R0 := Lib.hid (show RowAt q w0 wp W W g ps ps E T v1 v4 v5 v6 (.slice none 0 0) [] from ⟨h, KeepBut.refl W g none, Kd.R_nil _ _ _ _ _, rfl, rfl, by simp⟩)
  have HH := Lib.hid h
  clear hq hn h
  go_enter Tryz.func126, Tryz.ntmps126
  go_wp2
  go_loopw [5] (fun v wr => ∃ (ps' : List PieceR) (acc : List ByteArray), Hid (RowAt q w0 wp W wr g ps ps' E T v1 v4 v5 v6 v acc)) (fun _ wr => leftAt wr g)
  case atStart => exact ⟨ps, [], R0⟩
  case round =>
    obtain ⟨ps', acc, hR⟩ := hrel
    by_cases c : (hereB ps').toList.isEmpty = true
    · have HS := Lib.hid (here_none c)
      have HO := Lib.hid (show oneB q ps' = false by unfold oneB; rw [c]; rfl)
      clear c R0
      go_wp2_with (go_at_call 76; refine (here_calls hR.out.rd).mono ?_; rw [HS.out]; rintro e w2 ⟨rfl, ⟨nd, rfl⟩⟩)
      go_ret
      obtain ⟨n1, n2⟩ := rowL_no HO.out
      have l1 := hR.out.l
      have t1 := hR.out.t
      rw [n1, List.append_nil] at l1
      rw [n2] at t1
      exact ⟨_, rfl, by rw [l1]; exact hR.out.row, by rw [t1]; exact hR.out.rd.drewN nd, hR.out.keep⟩
    · have c1 : (hereB ps').toList.isEmpty = false := by simpa using c
      obtain ⟨p, t, hps, h1, h2, h3⟩ := here_ne c1
      have HP := Lib.hid hps
      have HB := Lib.hid (HQ.out (hereB ps') (here_size ps'))
      obtain ⟨s, hs⟩ : ∃ s, s = hereB ps' := ⟨_, rfl⟩
      have HS := Lib.hid hs
      have hn : ¬ (s.toList = ([] : List UInt8)) := by rw [hs]; exact fun e => by rw [e] at c1; cases c1
      have hn1 : (s.toList == ([] : List UInt8)) = false := beq_eq_false_iff_ne.2 hn
      have hn2 : (s.toList != ([] : List UInt8)) = true := bne_iff_ne.2 hn
      rw [← hs] at c1 HB
      have hn3 : (!s.toList.isEmpty) = true := by rw [c1]; rfl
      by_cases hqq : q s = true
      · have HO := Lib.hid (show oneB q ps' = true by unfold oneB; rw [← hs, c1, hqq]; rfl)
        rw [hqq] at HB
        have hAC : acc.length ≤ 1000000 := by have := hR.out.n; have := HL.out; omega
        have HAC := Lib.hid hAC
        obtain ⟨A, d, hu⟩ := Kd.R_slice hR.out.row
        subst hu
        have HWZ := Lib.hid hR.out.keep.1
        clear c h1 h2 h3 hps hs hqq hAC R0
        go_wp2_with (first | (go_at_call 76; refine (here_calls (by first | exact hR.out.rd | exact hR.out.rd.drewN _)).mono ?_; rw [← HS.out]; rintro e w2 ⟨rfl, ⟨nd, rfl⟩⟩) | (go_at_call 85; refine (HB.out _).mono ?_; rintro e w2 ⟨rfl, ⟨nd, rfl⟩⟩) | (go_at_call 83; refine (take_calls (by first | exact hR.out.rd.drewN _) HP.out).mono ?_; rw [← HS.out]; rintro e w2 ⟨rfl, hRd, hK⟩; have HRd := Lib.hid hRd; have HK := Lib.hid hK; clear hRd hK) | (at_builtin; refine Kd.R_append Kd.string (w0 := w2) W.heap.size rfl (.tmp 15) (.tmp 18) 26 9 (.string ⟨#[]⟩) 16 rfl Tryz.underlying26 info9 rfl (by decide) (by decide) (.slice A acc.length d) acc s [.string s] (fun _ => True) (fun _ => False) rfl rfl ?aP (fun _ hk => hk.elim) ?aF ?aO ?aB ?aS ?aL ?_; (case aP => exact rfl); (case aF => exact fun _ _ => trivial); (case aO => exact R_keepG hR.out.row hR.out.rd.blk.choose_spec HK.out); (case aB => exact Below.refl _ _); (case aS => exact Nat.le_trans HWZ.out HK.out.1); (case aL => have := HAC.out; omega); intro x w3 hr hb hg hat; have HX := Lib.hid hr; have HBB := Lib.hid hb; clear hr hb hg hat))
        have st := RowAt.step HH.out hR.out HP.out HO.out HRd.out HK.out HBB.out (by rw [← HS.out]; exact HX.out)
        refine ⟨⟨t, _, Lib.hid st⟩, ?_⟩
        · have e1 := st.rd.left
          have e2 := hR.out.rd.left
          have e3 := HP.out
          rw [e3] at e2
          rw [e1, e2]
          exact Nat.lt_succ_self _
      · have hqf : q s = false := by simpa using hqq
        have HO := Lib.hid (show oneB q ps' = false by unfold oneB; rw [← hs, hqf, Bool.and_false])
        rw [hqf] at HB
        clear c h1 h2 h3 hps hs hqq hqf R0
        go_wp2_with (first | (go_at_call 76; refine (here_calls (by first | exact hR.out.rd | exact hR.out.rd.drewN _)).mono ?_; rw [← HS.out]; rintro e w2 ⟨rfl, ⟨nd, rfl⟩⟩) | (go_at_call 85; refine (HB.out _).mono ?_; rintro e w2 ⟨rfl, ⟨nd, rfl⟩⟩))
        go_ret
        obtain ⟨n1, n2⟩ := rowL_no HO.out
        have l1 := hR.out.l
        have t1 := hR.out.t
        rw [n1, List.append_nil] at l1
        rw [n2] at t1
        exact ⟨_, rfl, by rw [l1]; exact hR.out.row, by rw [t1]; exact hR.out.rd.drewN _, hR.out.keep⟩
set_option maxRecDepth 100000 in
set_option maxHeartbeats 4000000 in
/-- some: of which there must be one. -/
theorem someAny {w0 wp W : World} {g : Nat} {ps : List PieceR} {E : Int} {T : TG} {v1 v4 v5 v6 : Value} (h : Rd w0 wp W g ps E T v1 v4 v5 v6) {q : ByteArray → Bool} (hq : SoIs 85 q) (hn : ps.length ≤ 1000000) :
    Calls Tryz.prog 84 #[.pointer (some ⟨g, 0, none⟩), .func (.func 85) #[] #[]] W fun e W' =>
      (rowL q ps ≠ [] ∧ ∃ v, e = .returned v ∧ Kd.R Kd.string 9 W' W.heap.size (fun _ => True) v (rowL q ps) ∧ Rd w0 wp W' g (rowT q ps) E T v1 v4 v5 v6 ∧ KeepBut W W' g none) ∨
      (rowL q ps = [] ∧ Bad g W 10 (stopE E (rowT q ps)).1 (stopE E (rowT q ps)).2 e W' ∧ BadK w0 wp g W') := by
  have HC := Lib.hid (rowAny h hq hn)
  have HW0 := Lib.hid (show w0.heap.size ≤ W.heap.size from Nat.le_trans h.lo (Nat.le_of_lt (Nat.lt_of_lt_of_le h.hi h.size)))
  clear hq hn h
  by_cases c : rowL q ps = []
  · rw [c] at HC ⊢
    go_enter Tryz.func84, Tryz.ntmps84
    go_wp2_with (first | (go_at_call 126; refine HC.out.mono ?_; rintro e w2 ⟨v, rfl, hr, hRd, hK⟩; obtain ⟨A, d, hv⟩ := Kd.R_slice hr; subst hv; have HRd := Lib.hid hRd; have HK := Lib.hid hK; clear hr hRd hK) | (go_at_call 86; refine (stop_calls HRd.out).mono ?_; rintro e w3 ⟨⟨B, rfl, hF, hB⟩, hb⟩; have HF := Lib.hid hF; have HB := Lib.hid hB; have HBW := Lib.hid hb; clear hF hB hb))
    exact ⟨rfl, Or.inr ⟨by first | rfl | trivial, ⟨_, rfl, HF.out, Nat.le_trans HK.out.1 HB.out⟩, HRd.out.badK HBW.out⟩⟩
  · have hl : 0 < (rowL q ps).length := List.length_pos_iff.2 c
    obtain ⟨n, hn⟩ : ∃ n, n = (rowL q ps).length := ⟨_, rfl⟩
    have HN := Lib.hid hn
    have HCC := Lib.hid c
    have q0 : ((n : Int) == 0) = false := by rw [beq_eq_false_iff_ne]; omega
    clear hl hn c
    go_enter Tryz.func84, Tryz.ntmps84
    go_wp2_with (go_at_call 126; refine HC.out.mono ?_; rintro e w2 ⟨v, rfl, hr, hRd, hK⟩; obtain ⟨A, d, hv⟩ := Kd.R_slice hr; have HR := Lib.hid hr; have HV := Lib.hid hv; rw [← HN.out] at hv; subst hv; have HRd := Lib.hid hRd; have HK := Lib.hid hK; clear hr hRd hK)
    go_ret
    exact Or.inl ⟨HCC.out, _, rfl, HR.out, HRd.out, HK.out⟩
end Go.Proofs.YtejnfbfikadpdaaGreatDoor.P
