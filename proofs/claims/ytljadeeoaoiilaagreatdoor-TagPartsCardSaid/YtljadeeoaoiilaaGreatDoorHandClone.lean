/- tag.Clone, walked by hand: slices.Clone at a row of texts. Condition: a row is no longer than 100000. -/
import Derived.Test.YtljadeeoaoiilaaGreatDoorSq
import Derived.Test.YtljadeeoaoiilaaGreatDoorHandHalf
import Derived.Lib.LazyBuf
import Derived.Test.YtljadeeoaoiilaaGreatDoorPx0
namespace Go.Proofs.YtljadeeoaoiilaaGreatDoor.P
open Go.RowKit Go.Shelf Go.Proofs.YtljadeeoaoiilaaGreatDoorW.PrintWords Go.Proofs.YtljadeeoaoiilaaGreatDoorW.PrintLast Go.Proofs.YtljadeeoaoiilaaGreatDoorW.PrintMore
attribute [local go_sem] Oper.semAt_some
set_option linter.unusedVariables false
set_option linter.unusedSimpArgs false
theorem lit_none (w : World) : Kd.R Kd.string 9 (w.alloc (.cells #[] 9)) w.heap.size (fun _ => True) (.slice (some ⟨w.heap.size, 0, none⟩) 0 0) ([] : List ByteArray) :=
  ⟨fun _ _ => trivial, OwnRow.lit (ps := ([] : List ByteArray)) (inner := []) w w.heap.size (Reps.none _ _) (Nat.le_refl _) (by simp)⟩
set_option maxHeartbeats 4000000 in
theorem CloneS_calls (A : Option Addr) (c : Nat) (l : List ByteArray) (w : World) (hr : Kd.C Kd.string w A l.length l) (hc : l.length ≤ c) (hl : l.length ≤ 100000) :
    Calls Tryz.prog 47 #[.slice A l.length c] w fun e w' => ∃ v, e = .returned v ∧ Kd.R Kd.string 9 w' w.heap.size (fun _ => True) v l ∧ Below w.heap.size w w' := by
  have HR := Lib.hid hr
  have HC := Lib.hid hc
  have HL := Lib.hid hl
  rcases A with _ | ad
  · have h0 : l = [] := by
      cases l with
      | nil => rfl
      | cons x t =>
        obtain ⟨ad, h, _⟩ := hr.2.2 (by simp)
        cases h
    subst h0
    have E0 := fun (v : World) => _root_.Go.run_eql_slice_nil (P := Tryz.prog) v 22 9 none 0 c Tryz.underlying22
    clear hr hc hl
    go_enter Tryz.func47, Tryz.ntmps47
    go_wp2
    go_ret
    exact ⟨_, rfl, Kd.R_nil _ _ _ _ _, Below.refl _ _⟩
  · have E0 := fun (v : World) => _root_.Go.run_eql_slice_nil (P := Tryz.prog) v 22 9 (some ad) l.length c Tryz.underlying22
    clear hr hc hl
    have R0 := Lib.hid (lit_none w)
    go_enter Tryz.func47, Tryz.ntmps47
    go_wp2_with (at_builtin; refine Kd.R_append_row (w0 := w) Value.string ByteArray.empty (h1 := fun _ => rfl) w.heap.size rfl (.tmp 5) (.tmp 6) 22 9 (.string ⟨#[]⟩) 16 rfl Tryz.underlying22 info9 rfl (by decide) (.slice (some ⟨w.heap.size, 0, none⟩) 0 0) [] l (some ad) l.length c (fun _ => True) rfl rfl ?aF R0.out ?aR ?aB ?aS ?aL ?_; (case aF => exact fun _ _ => trivial); (case aR => exact Kd.C_alloc HR.out _); (case aB => exact (Below.refl w.heap.size w).alloc (Nat.le_refl _) _); (case aS => simp); (case aL => have := HL.out; simp; omega); intro x w2 hr hb hg hat; rw [List.nil_append] at hr; have HX := Lib.hid hr; have HB := Lib.hid hb; clear hr hb hg hat)
    go_ret
    exact ⟨_, rfl, HX.out, HB.out⟩
section
variable {P : Program} {ops : Array Oper} {rest : List Oper} {o : Oper} {a : Act} {Q : Exit → Act → World → Prop} {W : World}
theorem list_of_step (h : if Region.wanted o (yielded ops a.tmps) = true then Oper.wp P o a W (wpList P ops Q rest) Q else wpList P ops Q rest (a.put o.dst undef) W) : wpList P ops Q (o :: rest) a W := by
  unfold wpList
  by_cases c : Region.wanted o (yielded ops a.tmps) = true
  · rw [if_pos c] at h ⊢
    exact .inl h
  · rw [if_neg c] at h ⊢
    exact h
end
def rowsOf (inner : List Value) (n : Nat) : List (List Value) := (List.range n).map fun j => (inner.drop (j * 2)).take 2
theorem cells_of {w : World} {A : Option Addr} {l : List S40} (h : Kd.C k40 w A l.length l) :
    ∃ rows : List (List Value), rows.length = l.length ∧ (∀ (j : Nat) (x : S40) (r : List Value), l[j]? = some x → rows[j]? = some r → k40.K w x r) ∧ ReadsRow (fun (x : List Value) (cs : List Value) => cs = x ∧ cs.length = 2 ∧ ∀ u ∈ cs, u.oneCell' = true) 2 w A l.length rows := by
  rcases A with _ | ad
  · have h0 : l = [] := by
      cases l with
      | nil => rfl
      | cons x t =>
        obtain ⟨ad, h, _⟩ := h.2.2 (by simp)
        cases h
    subst h0
    exact ⟨[], rfl, fun j x r hx => by simp at hx, rfl, by simp, fun h => absurd h (Nat.lt_irrefl 0)⟩
  · obtain ⟨inner, hr, hc⟩ := ReadsRow.inner_ h
    have hlen : (rowsOf inner l.length).length = l.length := by unfold rowsOf; rw [List.length_map, List.length_range]
    have hrow : ∀ j r, (rowsOf inner l.length)[j]? = some r → j < l.length ∧ r = (inner.drop (j * 2)).take 2 := by
      intro j r hj
      unfold rowsOf at hj
      rw [List.getElem?_map] at hj
      obtain ⟨i, hi, rfl⟩ := Option.map_eq_some_iff.1 hj
      obtain ⟨h1, h2⟩ := List.getElem?_eq_some_iff.1 hi
      rw [List.length_range] at h1
      rw [List.getElem_range] at h2
      subst h2
      exact ⟨h1, rfl⟩
    refine ⟨rowsOf inner l.length, hlen, fun j x r hx hj => ?_, hlen, h.2.1, fun hp => ⟨ad, rfl, fun j r hj => ?_⟩⟩
    · obtain ⟨_, rfl⟩ := hrow j r hj
      exact hr.2 j x hx
    · obtain ⟨hj1, rfl⟩ := hrow j r hj
      have hK := hr.2 j _ (List.getElem?_eq_getElem hj1)
      have hl2 : ((inner.drop (j * 2)).take 2).length = 2 := k40.K_len hK
      refine ⟨_, hl2, ⟨rfl, hl2, fun u hu => k40.K_one hK u hu⟩, fun i u hu => hc _ u ?_⟩
      have hi : i < 2 := by have := (List.getElem?_eq_some_iff.1 hu).1; omega
      rw [List.getElem?_take, if_pos hi, List.getElem?_drop] at hu
      exact hu
theorem lit_nonE (w : World) : Kd.R (Kd.raw 2) 40 (w.alloc (.cells #[] 40)) w.heap.size (fun _ => True) (.slice (some ⟨w.heap.size, 0, none⟩) 0 0) ([] : List (List Value)) :=
  ⟨fun _ _ => trivial, OwnRow.lit (ps := ([] : List (List Value))) (inner := []) w w.heap.size (Reps.none _ _) (Nat.le_refl _) (by simp)⟩
set_option maxHeartbeats 4000000 in
theorem CloneE_calls (A : Option Addr) (c : Nat) (l : List S40) (w0 w : World) (hr : Kd.C k40 w0 A l.length l) (hbw : Below w0.heap.size w0 w) (hc : l.length ≤ c) (hl : l.length ≤ 100000) :
    Calls Tryz.prog 48 #[.slice A l.length c] w fun e w' => ∃ v rows, e = .returned v ∧ rows.length = l.length ∧ (∀ (j : Nat) (x : S40) (r : List Value), l[j]? = some x → rows[j]? = some r → k40.K w0 x r) ∧ Kd.R (Kd.raw 2) 40 w' w.heap.size (fun _ => True) v rows ∧ Below w.heap.size w w' := by
  obtain ⟨rows, hrl, hrk, hrr0⟩ := cells_of hr
  have hrr := ReadsRow.imp_ hrr0 hbw (fun _ _ h => h)
  clear hrr0 hbw
  have HK := Lib.hid hrk
  have HN := Lib.hid hrl
  have HR := Lib.hid hrr
  have HL := Lib.hid hl
  rcases A with _ | ad
  · have h0 : rows = [] := by
      cases rows with
      | nil => rfl
      | cons x t =>
        obtain ⟨ad, h, _⟩ := hrr.2.2 (by rw [← hrl]; simp)
        cases h
    have E0 := fun (v : World) => _root_.Go.run_eql_slice_nil (P := Tryz.prog) v 23 40 none l.length c Tryz.underlying23
    have H0 := Lib.hid h0
    clear hr hc hl hrl hrk hrr h0
    go_enter Tryz.func48, Tryz.ntmps48
    go_wp2
    go_ret
    exact ⟨_, rows, rfl, HN.out, HK.out, by rw [H0.out]; exact Kd.R_nil _ _ _ _ _, Below.refl _ _⟩
  · have E0 := fun (v : World) => _root_.Go.run_eql_slice_nil (P := Tryz.prog) v 23 40 (some ad) l.length c Tryz.underlying23
    clear hr hc hl hrl hrk hrr
    have R0 := Lib.hid (lit_nonE w)
    go_enter Tryz.func48, Tryz.ntmps48
    go_wp2_with (at_builtin; refine list_of_step ?_; refine Kd.R_append_rows_step (Kd.raw 2) (w0 := w) w.heap.size (by rfl) (.tmp 5) (.tmp 6) 23 40 (.agg #[.string ⟨#[]⟩, .slice none 0 0]) 40 rfl Tryz.underlying23 info40 rfl (by decide) (by decide) (.slice (some ⟨w.heap.size, 0, none⟩) 0 0) [] rows (some ad) l.length c (fun _ => True) (fun _ => False) rfl rfl R0.out ?aR (fun _ _ h => h) (fun _ hk => hk.elim) (fun _ _ => trivial) ?aB ?aS ?aL ?_; (case aR => exact ReadsRow.imp_ HR.out (below_alloc (Below.refl _ _) _) (fun _ _ h => h)); (case aB => exact (Below.refl w.heap.size w).alloc (Nat.le_refl _) _); (case aS => simp); (case aL => have := HL.out; simp; omega); intro x w2 hr hb hg hat; rw [List.nil_append] at hr; have HX := Lib.hid hr; have HB := Lib.hid hb; clear hr hb hg hat)
    go_ret
    exact ⟨_, rows, rfl, HN.out, HK.out, HX.out, HB.out⟩
def cl1_T : Bool × List (List Nat × List Nat) := (true, [([], []), ([0], [0]), ([1], [1]), ([], []), ([3], [3]), ([4, 2], [4]), ([], []), ([6], [6]), ([7, 5], [7]), ([], []), ([9], [9]), ([10, 8], [10]), ([0, 1, 2, 3, 4, 6, 7, 9, 10], []), ([12, 2, 11, 0, 1, 2, 3, 4, 6, 7, 9, 10], [2, 12]), ([0, 1, 2, 3, 4, 5, 6, 7, 9, 10, 12, 13], []), ([14, 5, 13, 0, 1, 2, 3, 4, 5, 6, 7, 9, 10, 12, 13], [5, 14]), ([0, 1, 2, 3, 4, 5, 6, 7, 8, 9, 10, 12, 13, 14, 15], []), ([16, 8, 15, 0, 1, 2, 3, 4, 5, 6, 7, 8, 9, 10, 12, 13, 14, 15], [8, 16]), ([0, 1, 2, 3, 4, 5, 6, 7, 8, 9, 10, 11, 12, 13, 14, 15, 16, 17], []), ([18, 11, 17, 0, 1, 2, 3, 4, 5, 6, 7, 8, 9, 10, 11, 12, 13, 14, 15, 16, 17], [11, 18])])
def cl1_B : List Nat := [0, 1, 3, 0, 8, 31, 0, 64, 255, 0, 512, 2047, 1759, 8191, 16383, 32767, 65535, 131071, 262143, 524287]
theorem cl1_tab : rtab .any (opsOf Tryz.f12 1) = cl1_T := by kernel_rfl
theorem cl1_bits : waitsOk cl1_T.2 cl1_B = true := by kernel_rfl
def cl5_T : Bool × List (List Nat × List Nat) := (true, [([], []), ([0], [0]), ([], []), ([], []), ([3], [3]), ([4], [4]), ([1, 2, 0, 1, 2, 3, 4, 5], [1, 2]), ([6, 0, 1, 2, 3, 4, 5], [6]), ([7, 5, 5, 0, 1, 2, 3, 4, 5], [5, 7])])
def cl5_B : List Nat := [0, 1, 0, 0, 8, 24, 63, 127, 255]
theorem cl5_tab : rtab .any (opsOf Tryz.f12 5) = cl5_T := by kernel_rfl
theorem cl5_bits : waitsOk cl5_T.2 cl5_B = true := by kernel_rfl
set_option maxRecDepth 100000 in
set_option maxHeartbeats 8000000 in
theorem Clone_calls (T : TG) (A1 : Option Addr) (c1 : Nat) (A4 : Option Addr) (c4 : Nat) (A5 : Option Addr) (c5 : Nat) (A6 : Option Addr) (c6 : Nat) (w : World) (hr : RowsC w T A1 c1 A4 c4 A5 c5 A6 c6) (h1 : T.ext.length ≤ 100000) (h4 : T.vars.length ≤ 100000) (h5 : T.exts.length ≤ 100000) (h6 : T.priv.length ≤ 100000) (hs : ∀ x ∈ T.exts, x.f1.length ≤ 100000) :
    Calls Tryz.prog 12 #[.agg #[.string T.lang, .slice A1 T.ext.length c1, .string T.script, .string T.region, .slice A4 T.vars.length c4, .slice A5 T.exts.length c5, .slice A6 T.priv.length c6, .string T.grand]] w fun e w' => ∃ A1 c1 A4 c4 A5 c5 A6 c6, e = .returned (.agg (tagCells T A1 c1 A4 c4 A5 c5 A6 c6)) ∧ OwnT w' w.heap.size (.slice A1 T.ext.length c1) (.slice A4 T.vars.length c4) (.slice A5 T.exts.length c5) (.slice A6 T.priv.length c6) T.ext T.vars T.exts T.priv ∧ Below w.heap.size w w' := by
  obtain ⟨x0, x1, x2, x3, x4, x5, x6, x7⟩ := T
  dsimp only at hr h1 h4 h5 h6 hs ⊢
  have HR := Lib.hid hr
  have L1 := Lib.hid h1
  have L4 := Lib.hid h4
  have L5 := Lib.hid h5
  have L6 := Lib.hid h6
  have HS := Lib.hid hs
  have BT0 := Lib.hid (blk_on (two_blocks w #[.string x0, .slice A1 x1.length c1, .string x2, .string x3, .slice A4 x4.length c4, .slice A5 x5.length c5, .slice A6 x6.length c6, .string x7] #[.string (⟨#[]⟩ : ByteArray), .slice none 0 0, .string (⟨#[]⟩ : ByteArray), .string (⟨#[]⟩ : ByteArray), .slice none 0 0, .slice none 0 0, .slice none 0 0, .string (⟨#[]⟩ : ByteArray)] 25).1 (below_drew (Below.refl _ _)))
  have BZ0 := Lib.hid (blk_on (two_blocks w #[.string x0, .slice A1 x1.length c1, .string x2, .string x3, .slice A4 x4.length c4, .slice A5 x5.length c5, .slice A6 x6.length c6, .string x7] #[.string (⟨#[]⟩ : ByteArray), .slice none 0 0, .string (⟨#[]⟩ : ByteArray), .string (⟨#[]⟩ : ByteArray), .slice none 0 0, .slice none 0 0, .slice none 0 0, .string (⟨#[]⟩ : ByteArray)] 25).2 (below_drew (Below.refl _ _)))
  have BW0 := Lib.hid (below_drew (((Below.refl w.heap.size w).alloc (Nat.le_refl _) (.cells #[.string x0, .slice A1 x1.length c1, .string x2, .string x3, .slice A4 x4.length c4, .slice A5 x5.length c5, .slice A6 x6.length c6, .string x7] 25)).alloc (by simp) (.cells #[.string (⟨#[]⟩ : ByteArray), .slice none 0 0, .string (⟨#[]⟩ : ByteArray), .string (⟨#[]⟩ : ByteArray), .slice none 0 0, .slice none 0 0, .slice none 0 0, .string (⟨#[]⟩ : ByteArray)] 25)))
  clear hr h1 h4 h5 h6 hs
  go_enter Tryz.func12, Tryz.ntmps12
  go_wp2
  refine start_ (n := 20) (S := fun w' => w'.cell? ⟨w.heap.size, 1, none⟩ = some (.slice A1 x1.length c1) ∧ w'.cell? ⟨w.heap.size, 4, none⟩ = some (.slice A4 x4.length c4) ∧ w'.cell? ⟨w.heap.size, 5, none⟩ = some (.slice A5 x5.length c5) ∧ w'.cell? ⟨w.heap.size, 6, none⟩ = some (.slice A6 x6.length c6)) (ds := [13, 15, 17, 19]) #[false, false, false, false, false, false, false, false, false, false, false, false, false, false, false, false, false, false, false, false] (by kernel_rfl) rfl rfl ⟨(blk_cell BT0.out 1).trans rfl, (blk_cell BT0.out 4).trans rfl, (blk_cell BT0.out 5).trans rfl, (blk_cell BT0.out 6).trans rfl⟩ (fun hHeld => ?_); refine with_tabW cl1_tab cl1_bits (fun HT_ HW_ => ?_)
  refine pu_ (i := 0) (N := some 5) HT_ (bl_ 20 1) ?_
  refine pu_ (i := 3) (N := some 8) HT_ (bl_ 20 9) ?_
  refine pu_ (i := 6) (N := some 11) HT_ (bl_ 20 73) ?_
  refine pu_ (i := 9) (N := some 14) HT_ (bl_ 20 585) ?_
  refine tk_ (i := 1) (N := some 6) HT_ HW_ (bl_ 20 587) hHeld ?_ (hy := by rintro w' ⟨s0, s1, s2, s3⟩; go_simp; with_reducible rfl)
  refine tk_ (i := 4) (N := some 9) HT_ HW_ (bl_ 20 603) hHeld ?_ (hy := by rintro w' ⟨s0, s1, s2, s3⟩; go_simp; with_reducible rfl)
  refine tk_ (i := 7) (N := some 12) HT_ HW_ (bl_ 20 731) hHeld ?_ (hy := by rintro w' ⟨s0, s1, s2, s3⟩; go_simp; with_reducible rfl)
  refine tk_ (i := 10) (N := some 15) HT_ HW_ (bl_ 20 1755) hHeld ?_ (hy := by rintro w' ⟨s0, s1, s2, s3⟩; go_simp; with_reducible rfl)
  refine on_ (i := 2) (N := some 7) HT_ (bl_ 20 1759) rfl rfl (fun K hK => ?_)
  refine gs_ Tryz.func47 #[.slice A1 x1.length c1] ?_
  refine (CloneS_calls A1 c1 x1 _ (Kd.C_below HR.out.1.1 BW0.out) HR.out.1.2 L1.out).mono ?_
  rintro e W1 ⟨v1, rfl, hr_, hb_⟩
  have R1 := Lib.hid hr_
  have BW1 := Lib.hid (below_step BW0.out hb_)
  have BT1 := Lib.hid (blk_on BT0.out hb_)
  have BZ1 := Lib.hid (blk_on BZ0.out hb_)
  have B1 := Lib.hid hb_
  clear hb_ hr_
  refine ⟨_, rfl, ?_⟩
  obtain ⟨D1, d1, hd1⟩ := Kd.R_slice R1.out
  subst hd1
  refine hK.out _ _ ⟨(blk_cell BT1.out 1).trans rfl, (blk_cell BT1.out 4).trans rfl, (blk_cell BT1.out 5).trans rfl, (blk_cell BT1.out 6).trans rfl⟩ (fun hHeld => ?_)
  clear hK K
  refine nm_ (some 7) ?_
  refine pu_ (i := 12) (N := some 17) HT_ (bl_ 20 5855) ?_
  refine on_ (i := 5) (N := some 10) HT_ (bl_ 20 5887) rfl rfl (fun K hK => ?_)
  refine gs_ Tryz.func47 #[.slice A4 x4.length c4] ?_
  refine (CloneS_calls A4 c4 x4 _ (Kd.C_below HR.out.2.1.1 BW1.out) HR.out.2.1.2 L4.out).mono ?_
  rintro e W2 ⟨v2, rfl, hr_, hb_⟩
  have R2 := Lib.hid hr_
  have BW2 := Lib.hid (below_step BW1.out hb_)
  have BT2 := Lib.hid (blk_on BT1.out hb_)
  have BZ2 := Lib.hid (blk_on BZ1.out hb_)
  have B2 := Lib.hid hb_
  clear hb_ hr_
  refine ⟨_, rfl, ?_⟩
  obtain ⟨D2, d2, hd2⟩ := Kd.R_slice R2.out
  subst hd2
  refine hK.out _ _ ⟨(blk_cell BT2.out 1).trans rfl, (blk_cell BT2.out 4).trans rfl, (blk_cell BT2.out 5).trans rfl, (blk_cell BT2.out 6).trans rfl⟩ (fun hHeld => ?_)
  clear hK K
  refine nm_ (some 10) ?_
  refine on_ (i := 8) (N := some 13) HT_ (bl_ 20 6143) rfl rfl (fun K hK => ?_)
  refine gs_ Tryz.func47 #[.slice A6 x6.length c6] ?_
  refine (CloneS_calls A6 c6 x6 _ (Kd.C_below HR.out.2.2.2.1 BW2.out) HR.out.2.2.2.2 L6.out).mono ?_
  rintro e W3 ⟨v3, rfl, hr_, hb_⟩
  have R3 := Lib.hid hr_
  have BW3 := Lib.hid (below_step BW2.out hb_)
  have BT3 := Lib.hid (blk_on BT2.out hb_)
  have BZ3 := Lib.hid (blk_on BZ2.out hb_)
  have B3 := Lib.hid hb_
  clear hb_ hr_
  refine ⟨_, rfl, ?_⟩
  obtain ⟨D3, d3, hd3⟩ := Kd.R_slice R3.out
  subst hd3
  refine hK.out _ _ ⟨(blk_cell BT3.out 1).trans rfl, (blk_cell BT3.out 4).trans rfl, (blk_cell BT3.out 5).trans rfl, (blk_cell BT3.out 6).trans rfl⟩ (fun hHeld => ?_)
  clear hK K
  refine nm_ (some 13) ?_
  refine on_ (i := 11) (N := some 16) HT_ (bl_ 20 8191) rfl rfl (fun K hK => ?_)
  refine gs_ Tryz.func48 #[.slice A5 x5.length c5] ?_
  refine (CloneE_calls A5 c5 x5 w _ HR.out.2.2.1.1 BW3.out HR.out.2.2.1.2 L5.out).mono ?_
  rintro e W4 ⟨v4, rows, rfl, hn_, hk_, hr_, hb_⟩
  have R4 := Lib.hid hr_
  have HN := Lib.hid hn_
  have HK := Lib.hid hk_
  have BW4 := Lib.hid (below_step BW3.out hb_)
  have BT4 := Lib.hid (blk_on BT3.out hb_)
  have BZ4 := Lib.hid (blk_on BZ3.out hb_)
  have B4 := Lib.hid hb_
  clear hb_ hr_ hn_ hk_
  refine ⟨_, rfl, ?_⟩
  obtain ⟨D4, d4, hd4⟩ := Kd.R_slice R4.out
  rw [HN.out] at hd4
  subst hd4
  refine hK.out _ _ ⟨(blk_cell BT4.out 1).trans rfl, (blk_cell BT4.out 4).trans rfl, (blk_cell BT4.out 5).trans rfl, (blk_cell BT4.out 6).trans rfl⟩ (fun hHeld => ?_)
  clear hK K
  refine nm_ (some 16) ?_
  refine last_ (i := 13) (N := none) #[true, true, true, true, true, true, true, true, true, true, true, true, true, true, false, false, false, false, false, false] rfl rfl (one_of HT_.out (by kernel_rfl)) (by decide) (fun K hK => ?_)
  have sc_ : World.cell? W4 ⟨w.heap.size, 1, none⟩ = some _ := (blk_cell BT4.out 1).trans rfl
  have sf_ := blk_frozen BT4.out 1
  refine skip_ (w1 := ?_) (by rfl) rfl ?_ ?_
  rotate_left
  · go_simp
    rfl
  refine hK.out _ _ ?_
  clear hK K sc_ sf_
  obtain ⟨W5, hW5⟩ : ∃ W_, W_ = W4.setCell ⟨w.heap.size, 1, none⟩ (.slice D1 x1.length d1) := ⟨_, rfl⟩
  rw [← hW5]
  have BT5 : Hid (W5.heap[w.heap.size]? = some (.cells #[.string x0, .slice D1 x1.length d1, .string x2, .string x3, .slice A4 x4.length c4, .slice A5 x5.length c5, .slice A6 x6.length c6, .string x7] 25 (0, 0))) := Lib.hid (by rw [hW5]; exact blk_put BT4.out 1 _ rfl)
  have BZ5 : Hid (W5.heap[w.heap.size + 1]? = some (.cells #[.string (⟨#[]⟩ : ByteArray), .slice none 0 0, .string (⟨#[]⟩ : ByteArray), .string (⟨#[]⟩ : ByteArray), .slice none 0 0, .slice none 0 0, .slice none 0 0, .string (⟨#[]⟩ : ByteArray)] 25 (0, 0))) := Lib.hid (by rw [hW5]; exact blk_far BZ4.out (by simp) _)
  have HW5 := Lib.hid hW5
  clear hW5
  refine pu_ (i := 14) (N := some 18) HT_ (bl_ 20 32767) ?_
  refine last_ (i := 15) (N := none) #[true, true, true, true, true, true, true, true, true, true, true, true, true, true, true, true, false, false, false, false] rfl rfl (one_of HT_.out (by kernel_rfl)) (by decide) (fun K hK => ?_)
  have sc_ : World.cell? W5 ⟨w.heap.size, 4, none⟩ = some _ := (blk_cell BT5.out 4).trans rfl
  have sf_ := blk_frozen BT5.out 4
  refine skip_ (w1 := ?_) (by rfl) rfl ?_ ?_
  rotate_left
  · go_simp
    rfl
  refine hK.out _ _ ?_
  clear hK K sc_ sf_
  obtain ⟨W6, hW6⟩ : ∃ W_, W_ = W5.setCell ⟨w.heap.size, 4, none⟩ (.slice D2 x4.length d2) := ⟨_, rfl⟩
  rw [← hW6]
  have BT6 : Hid (W6.heap[w.heap.size]? = some (.cells #[.string x0, .slice D1 x1.length d1, .string x2, .string x3, .slice D2 x4.length d2, .slice A5 x5.length c5, .slice A6 x6.length c6, .string x7] 25 (0, 0))) := Lib.hid (by rw [hW6]; exact blk_put BT5.out 4 _ rfl)
  have BZ6 : Hid (W6.heap[w.heap.size + 1]? = some (.cells #[.string (⟨#[]⟩ : ByteArray), .slice none 0 0, .string (⟨#[]⟩ : ByteArray), .string (⟨#[]⟩ : ByteArray), .slice none 0 0, .slice none 0 0, .slice none 0 0, .string (⟨#[]⟩ : ByteArray)] 25 (0, 0))) := Lib.hid (by rw [hW6]; exact blk_far BZ5.out (by simp) _)
  have HW6 := Lib.hid hW6
  clear hW6
  refine pu_ (i := 16) (N := some 19) HT_ (bl_ 20 131071) ?_
  refine last_ (i := 17) (N := none) #[true, true, true, true, true, true, true, true, true, true, true, true, true, true, true, true, true, true, false, false] rfl rfl (one_of HT_.out (by kernel_rfl)) (by decide) (fun K hK => ?_)
  have sc_ : World.cell? W6 ⟨w.heap.size, 6, none⟩ = some _ := (blk_cell BT6.out 6).trans rfl
  have sf_ := blk_frozen BT6.out 6
  refine skip_ (w1 := ?_) (by rfl) rfl ?_ ?_
  rotate_left
  · go_simp
    rfl
  refine hK.out _ _ ?_
  clear hK K sc_ sf_
  obtain ⟨W7, hW7⟩ : ∃ W_, W_ = W6.setCell ⟨w.heap.size, 6, none⟩ (.slice D3 x6.length d3) := ⟨_, rfl⟩
  rw [← hW7]
  have BT7 : Hid (W7.heap[w.heap.size]? = some (.cells #[.string x0, .slice D1 x1.length d1, .string x2, .string x3, .slice D2 x4.length d2, .slice A5 x5.length c5, .slice D3 x6.length d3, .string x7] 25 (0, 0))) := Lib.hid (by rw [hW7]; exact blk_put BT6.out 6 _ rfl)
  have BZ7 : Hid (W7.heap[w.heap.size + 1]? = some (.cells #[.string (⟨#[]⟩ : ByteArray), .slice none 0 0, .string (⟨#[]⟩ : ByteArray), .string (⟨#[]⟩ : ByteArray), .slice none 0 0, .slice none 0 0, .slice none 0 0, .string (⟨#[]⟩ : ByteArray)] 25 (0, 0))) := Lib.hid (by rw [hW7]; exact blk_far BZ6.out (by simp) _)
  have HW7 := Lib.hid hW7
  clear hW7
  refine pu_ (i := 18) (N := some 20) HT_ (bl_ 20 524287) ?_
  refine last_ (i := 19) (N := none) #[true, true, true, true, true, true, true, true, true, true, true, true, true, true, true, true, true, true, true, true] rfl rfl (one_of HT_.out (by kernel_rfl)) (by decide) (fun K hK => ?_)
  have sc_ : World.cell? W7 ⟨w.heap.size, 5, none⟩ = some _ := (blk_cell BT7.out 5).trans rfl
  have sf_ := blk_frozen BT7.out 5
  refine skip_ (w1 := ?_) (by rfl) rfl ?_ ?_
  rotate_left
  · go_simp
    rfl
  refine hK.out _ _ ?_
  clear hK K sc_ sf_
  obtain ⟨W8, hW8⟩ : ∃ W_, W_ = W7.setCell ⟨w.heap.size, 5, none⟩ (.slice D4 x5.length d4) := ⟨_, rfl⟩
  rw [← hW8]
  have BT8 : Hid (W8.heap[w.heap.size]? = some (.cells #[.string x0, .slice D1 x1.length d1, .string x2, .string x3, .slice D2 x4.length d2, .slice D4 x5.length d4, .slice D3 x6.length d3, .string x7] 25 (0, 0))) := Lib.hid (by rw [hW8]; exact blk_put BT7.out 5 _ rfl)
  have BZ8 : Hid (W8.heap[w.heap.size + 1]? = some (.cells #[.string (⟨#[]⟩ : ByteArray), .slice none 0 0, .string (⟨#[]⟩ : ByteArray), .string (⟨#[]⟩ : ByteArray), .slice none 0 0, .slice none 0 0, .slice none 0 0, .string (⟨#[]⟩ : ByteArray)] 25 (0, 0))) := Lib.hid (by rw [hW8]; exact blk_far BZ7.out (by simp) _)
  have HW8 := Lib.hid hW8
  clear hW8
  refine done_ (done_of HT_.out (by kernel_rfl)) ?_
  have M0_ := Mid.start BW0.out B1.out B2.out B3.out B4.out R1.out R2.out R3.out HN.out HK.out R4.out BT4.out BZ4.out
  rw [← HW5.out, ← HW6.out, ← HW7.out, ← HW8.out] at M0_
  have ct_ := cells8 M0_.t
  obtain ⟨p0, p1, p2, p3, p4, p5, p6, p7, -⟩ := ct_
  have M0 := Lib.hid M0_
  clear M0_
  go_wp2
  clear p0 p1 p2 p3 p4 p5 p6 p7
  go_loopw [24] (fun iv wr => ∃ i : Nat, iv = .int .i64 (i : Int) ∧ Hid (i ≤ x5.length) ∧ Hid (Mid w wr (.string x0) (.string x2) (.string x3) (.string x7) (.slice D1 x1.length d1) (.slice D2 x4.length d2) (.slice D4 x5.length d4) (.slice D3 x6.length d3) #[.string (⟨#[]⟩ : ByteArray), .slice none 0 0, .string (⟨#[]⟩ : ByteArray), .string (⟨#[]⟩ : ByteArray), .slice none 0 0, .slice none 0 0, .slice none 0 0, .string (⟨#[]⟩ : ByteArray)] x1 x4 x6 x5 i)) (fun iv _ => x5.length - (intOf iv).toNat)
  case atStart => exact ⟨0, rfl, Lib.hid (Nat.zero_le _), M0⟩
  case round =>
    clear M0
    obtain ⟨i, rfl, hi, hM⟩ := hrel
    by_cases hlt : i < x5.length
    · obtain ⟨_, inner, f, ho, hr_⟩ := hM.out.e
      obtain ⟨u, he, _, h2_⟩ := hr_ i _ (List.getElem?_eq_getElem hlt)
      obtain ⟨EA, ec, hu, hle, hC⟩ := h2_ (Nat.le_refl _)
      subst hu
      rcases ho.2 with ⟨hv, hn0⟩ | ⟨g, cap, cur, hv, hbg, hgc, _⟩
      · omega
      injection hv with e1 e2 e3
      subst e1 e3
      have g0 : inner[i * 2]? = some (.string x5[i].f0) := by
        have := congrArg (fun l : List Value => l[0]?) he
        simpa [List.getElem?_take, List.getElem?_drop] using this
      have g1 : inner[i * 2 + 1]? = some (.slice EA x5[i].f1.length ec) := by
        have := congrArg (fun l : List Value => l[1]?) he
        simpa [List.getElem?_take, List.getElem?_drop] using this
      have z0_ : wr.cell? ⟨g, i * 2, none⟩ = some (.string x5[i].f0) := by
        have := ho.cells (g := g) rfl _ _ g0
        rwa [add_plain] at this
      have z1_ : wr.cell? ⟨g, i * 2 + 1, none⟩ = some (.slice EA x5[i].f1.length ec) := by
        have := ho.cells (g := g) rfl _ _ g1
        rwa [add_plain] at this
      have hm : x5.length ≤ 9223372036854775807 := Kd.C_max HR.out.2.2.1.1
      have hi0 : (0 : Int) ≤ (i : Int) := Int.natCast_nonneg _
      have q0 : ((i : Int) < (x5.length : Int)) := by omega
      have q2 : decide ((i : Int) < (x5.length : Int)) = true := decide_eq_true q0
      have hw2 : wrap64 ((i : Int) + 1) = ((i + 1 : Nat) : Int) := by unfold wrap64; omega
      have HW2 := Lib.hid hw2
      have HLT := Lib.hid hlt
      have HC := Lib.hid hC
      have HLE := Lib.hid hle
      have HGC := Lib.hid hgc
      clear hw2 hm hC hle h2_ hr_ he g0 g1 ho hi hgc hbg
      have hM2 : Mid w wr (.string x0) (.string x2) (.string x3) (.string x7) (.slice D1 x1.length d1) (.slice D2 x4.length d2) (.slice (some ⟨g, 0, none⟩) x5.length d4) (.slice D3 x6.length d3) #[.string (⟨#[]⟩ : ByteArray), .slice none 0 0, .string (⟨#[]⟩ : ByteArray), .string (⟨#[]⟩ : ByteArray), .slice none 0 0, .slice none 0 0, .slice none 0 0, .string (⟨#[]⟩ : ByteArray)] x1 x4 x6 x5 i := hM.out
      have MA := Lib.hid ((hM2.below (below_alloc (Below.refl _ _) (.cells #[.string x5[i].f0, .slice EA x5[i].f1.length ec] 40))).below (below_drew (Below.refl _ _)))
      have BE := Lib.hid (blk_on (new_blk wr (.cells #[.string x5[i].f0, .slice EA x5[i].f1.length ec] 40)) (below_drew (Below.refl _ _)))
      have LS := Lib.hid (HS.out _ (List.getElem_mem hlt))
      have HX := Lib.hid (show x5[i]? = some x5[i] from List.getElem?_eq_getElem hlt)
      clear hM2
      go_wp2
      refine start_ (n := 9) (S := fun w' => w'.cell? ⟨w.heap.size, 5, none⟩ = some (.slice (some ⟨g, 0, none⟩) x5.length d4) ∧ w'.cell? ⟨wr.heap.size, 1, none⟩ = some (.slice EA x5[i].f1.length ec)) (ds := [8]) #[false, false, false, false, false, false, false, false, false] (by kernel_rfl) rfl rfl ⟨(blk_cell MA.out.t 5).trans rfl, (blk_cell BE.out 1).trans rfl⟩ (fun hHeld => ?_); refine with_tabW cl5_tab cl5_bits (fun HT_ HW_ => ?_)
      refine pu_ (i := 0) (N := some 29) HT_ (bl_ 9 1) ?_
      refine pu_ (i := 2) (N := some 31) HT_ (bl_ 9 5) ?_
      refine pu_ (i := 3) (N := some 32) HT_ (bl_ 9 13) ?_
      refine tk_ (i := 1) (N := some 30) HT_ HW_ (bl_ 9 15) hHeld ?_ (hy := by rintro w' ⟨s0, s1⟩; go_simp; with_reducible rfl)
      refine tk_ (i := 4) (N := some 33) HT_ HW_ (bl_ 9 31) hHeld ?_ (hy := by rintro w' ⟨s0, s1⟩; go_simp; with_reducible rfl)
      refine on_ (i := 5) (N := some 34) HT_ (bl_ 9 63) rfl rfl (fun K hK => ?_)
      refine gs_ Tryz.func47 #[.slice EA x5[i].f1.length ec] ?_
      refine (CloneS_calls EA ec x5[i].f1 _ (Kd.C_below HC.out MA.out.b) HLE.out LS.out).mono ?_
      rintro e V ⟨u, rfl, hu_, hb_⟩
      obtain ⟨U, du, hu2_⟩ := Kd.R_slice hu_
      subst hu2_
      have zV_ := pw_cell_below hb_ (pw_cell_below (below_drew (Below.refl _ _)) (pw_cell_below (below_alloc (Below.refl _ _) (.cells #[.string x5[i].f0, .slice EA x5[i].f1.length ec] 40)) z1_))
      have MC := Lib.hid (MA.out.below hb_)
      have BV := Lib.hid (blk_on BE.out hb_)
      have MF := Lib.hid (MA.out.step rfl HX.out hb_ hu_)
      have HGV := Lib.hid (blk_on (blk_on (blk_on HGC.out (below_alloc (Below.refl _ _) (.cells #[.string x5[i].f0, .slice EA x5[i].f1.length ec] 40))) (below_drew (Below.refl _ _))) hb_)
      clear hb_ hu_
      refine ⟨_, rfl, ?_⟩
      refine hK.out _ _ ⟨(blk_cell MC.out.t 5).trans rfl, (blk_cell BV.out 1).trans rfl⟩ (fun hHeld => ?_)
      clear hK K
      refine nm_ (some 34) ?_
      refine pu_ (i := 6) (N := some 35) HT_ (bl_ 9 127) ?_
      refine pu_ (i := 7) (N := some 36) HT_ (bl_ 9 255) ?_
      refine last_ (i := 8) (N := none) #[true, true, true, true, true, true, true, true, true] rfl rfl (one_of HT_.out (by kernel_rfl)) (by decide) (fun K hK => ?_)
      have sf_ := blk_frozen HGV.out (i * 2 + 1)
      have sl_ : g < V.heap.size := blk_lt HGV.out
      refine skip_ (w1 := ?_) (by rfl) rfl ?_ ?_
      rotate_left
      · go_simp
        rfl
      refine hK.out _ _ ?_
      clear hK K
      refine done_ (done_of HT_.out (by kernel_rfl)) ?_
      go_wp2
      refine ⟨⟨i + 1, by rw [HW2.out], Lib.hid (Nat.succ_le_of_lt HLT.out), MF⟩, ?_⟩
      rw [HW2.out]
      show x5.length - ((i + 1 : Nat) : Int).toNat < x5.length - (i : Int).toNat
      have := HLT.out
      omega
    · have hi2 : i = x5.length := Nat.le_antisymm hi.out (Nat.not_lt.1 hlt)
      subst hi2
      have q0 : ¬ ((x5.length : Int) < (x5.length : Int)) := by omega
      have q2 : decide ((x5.length : Int) < (x5.length : Int)) = false := decide_eq_false q0
      obtain ⟨p0, p1, p2, p3, p4, p5, p6, p7, -⟩ := cells8 hM.out.t
      have sl_ : w.heap.size + 1 < wr.heap.size := blk_lt hM.out.z
      have z0 := (blk_cell hM.out.z 0).trans rfl
      have sf0 := blk_frozen hM.out.z 0
      have z1 := (blk_cell hM.out.z 1).trans rfl
      have sf1 := blk_frozen hM.out.z 1
      have z2 := (blk_cell hM.out.z 2).trans rfl
      have sf2 := blk_frozen hM.out.z 2
      have z3 := (blk_cell hM.out.z 3).trans rfl
      have sf3 := blk_frozen hM.out.z 3
      have z4 := (blk_cell hM.out.z 4).trans rfl
      have sf4 := blk_frozen hM.out.z 4
      have z5 := (blk_cell hM.out.z 5).trans rfl
      have sf5 := blk_frozen hM.out.z 5
      have z6 := (blk_cell hM.out.z 6).trans rfl
      have sf6 := blk_frozen hM.out.z 6
      have z7 := (blk_cell hM.out.z 7).trans rfl
      have sf7 := blk_frozen hM.out.z 7
      clear hi hlt
      go_wp2
      refine bodyPost_ret (results_cell_row rfl _ _ (w.heap.size + 1) 25 #[.string x0, .slice D1 x1.length d1, .string x2, .string x3, .slice D2 x4.length d2, .slice D4 x5.length d4, .slice D3 x6.length d3, .string x7] (0, 0) _ rfl (put8 hM.out.z _ _ _ _ _ _ _ _) Tryz.underlying25 rfl (by kernel_rfl)) rfl ?_
      exact ⟨D1, d1, D2, d2, D4, d4, D3, d3, rfl, hM.out.done.set8 hM.out.z _ _ _ _ _ _ _ _, below8 hM.out.b (by omega) _ _ _ _ _ _ _ _⟩
end Go.Proofs.YtljadeeoaoiilaaGreatDoor.P
