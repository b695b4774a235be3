/- grand.Find, with sort.Search at its own function, walked: it tells whether a text is one of the names, whatever its case. Condition: the variable names holds them. -/
import Derived.Test.YtejnfbfikadpdaaGreatDoorSq
import Derived.Test.YtejnfbfikadpdaaGreatDoorEvC
import Derived.Test.YtejnfbfikadpdaaGreatDoorHandErr
import Derived.Lib.Hide
import Derived.Test.YtejnfbfikadpdaaGreatDoorPx1
namespace Go.Proofs.YtejnfbfikadpdaaGreatDoor.P
open Go.RowKit Go.Shelf Go.Proofs.YtejnfbfikadpdaaGreatDoorW.PrintWords Go.Proofs.YtejnfbfikadpdaaGreatDoorW.PrintLast Go.Proofs.YtejnfbfikadpdaaGreatDoorW.PrintMore Go.Proofs.YtejnfbfikadpdaaGreatDoor.Iso
set_option linter.unusedVariables false
set_option linter.unusedSimpArgs false
attribute [local go_sem] Oper.semAt_some
def nameL : List Str := [[97, 114, 116, 45, 108, 111, 106, 98, 97, 110], [99, 101, 108, 45, 103, 97, 117, 108, 105, 115, 104], [101, 110, 45, 103, 98, 45, 111, 101, 100], [105, 45, 97, 109, 105], [105, 45, 98, 110, 110], [105, 45, 100, 101, 102, 97, 117, 108, 116], [105, 45, 101, 110, 111, 99, 104, 105, 97, 110], [105, 45, 104, 97, 107], [105, 45, 107, 108, 105, 110, 103, 111, 110], [105, 45, 108, 117, 120], [105, 45, 109, 105, 110, 103, 111], [105, 45, 110, 97, 118, 97, 106, 111], [105, 45, 112, 119, 110], [105, 45, 116, 97, 111], [105, 45, 116, 97, 121], [105, 45, 116, 115, 117], [110, 111, 45, 98, 111, 107], [110, 111, 45, 110, 121, 110], [115, 103, 110, 45, 98, 101, 45, 102, 114], [115, 103, 110, 45, 98, 101, 45, 110, 108], [115, 103, 110, 45, 99, 104, 45, 100, 101], [122, 104, 45, 103, 117, 111, 121, 117], [122, 104, 45, 104, 97, 107, 107, 97], [122, 104, 45, 109, 105, 110], [122, 104, 45, 109, 105, 110, 45, 110, 97, 110], [122, 104, 45, 120, 105, 97, 110, 103]]
def nm (i : Nat) : ByteArray := mk (nameL.getD i [])
def NamesIn (W : World) : Prop := ∀ i : Nat, i < 26 → W.cell? ⟨0, i, none⟩ = some (.string (nm i))
theorem NamesIn.on {w W : World} (h : NamesIn w) (hb : Below w.heap.size w W) : NamesIn W := fun i hi => pw_cell_below hb (h i hi)
theorem nm_size (i : Nat) : (nm i).size ≤ 20 := by
  unfold nm
  rw [mk_size]
  rcases Nat.lt_or_ge i 26 with h | h
  · exact (show ∀ i : Fin 26, (nameL.getD i.1 []).length ≤ 20 by decide) ⟨i, h⟩
  · rw [List.getD_eq_getElem?_getD, List.getElem?_eq_none (by exact h)]; decide
def findP (s : ByteArray) (i : Nat) : Bool := decide (0 ≤ cmpL (low (bl (nm i))) (low (bl s)))
def srch (p : Nat → Bool) : Nat → Nat → Nat → Nat
  | 0, i, _ => i
  | n + 1, i, j => if i < j then (if p ((i + j) / 2) then srch p n i ((i + j) / 2) else srch p n ((i + j) / 2 + 1) j) else i
def findI (s : ByteArray) : Nat := srch (findP s) 27 0 26
def isGrand (s : ByteArray) : Bool := decide (findI s < 26) && same (bl (nm (findI s))) (bl s)
def fi1_T : Bool × List (List Nat × List Nat) := (true, [([], []), ([0], [0]), ([1], [1]), ([], []), ([2, 3], [2, 3]), ([4], [4]), ([5, 4, 0, 1, 2, 3, 4, 5], [5])])
def fi1_B : List Nat := [0, 1, 3, 0, 15, 31, 63]
theorem fi1_tab : rtab .any (opsOf Tryz.f68 1) = fi1_T := by kernel_rfl
theorem fi1_bits : waitsOk fi1_T.2 fi1_B = true := by kernel_rfl
def fi2_T : Bool × List (List Nat × List Nat) := (true, [([], []), ([0], [0]), ([1], [1]), ([2], [2]), ([3, 2], [2, 3]), ([4, 2], [2, 4]), ([2], [2]), ([5, 6, 2, 2], [2, 5, 6]), ([7, 2], [2, 7]), ([2, 8], [2, 8])])
def fi2_B : List Nat := [0, 1, 3, 7, 15, 31, 7, 127, 255, 511]
theorem fi2_tab : rtab .any (opsOf Tryz.f41 2) = fi2_T := by kernel_rfl
theorem fi2_bits : waitsOk fi2_T.2 fi2_B = true := by kernel_rfl
set_option maxRecDepth 100000 in
set_option maxHeartbeats 1000000 in
theorem findP_calls (b : Nat) (s : ByteArray) (hs : s.size ≤ 140737488355328) (i : Nat) (hi : i < 26) (W : World) (hN : NamesIn W) (hb : W.cell? ⟨b, 0, none⟩ = some (.string s)) :
    Calls Tryz.prog 68 #[.int .i64 (i : Int), .pointer (some ⟨b, 0, none⟩)] W fun e W' => e = .returned (.bool (findP s i)) ∧ Below W.heap.size W W' := by
  have HC := Lib.hid (fun V : World => show Calls Tryz.prog 69 #[.string (nm i), .string s] V fun e W' => e = .returned (.int .i64 (cmpL (low (bl (nm i))) (low (bl s)))) ∧ Below V.heap.size V W' from by
    obtain ⟨k, hk⟩ := (ascii_Compare_ev (nm i) s (by have := nm_size i; omega) hs).rounds
    exact ascii_Compare.calls k _ _ _ V hk)
  have z0 := hN i hi
  have hi0 : (0 : Int) ≤ (i : Int) := Int.natCast_nonneg _
  have hi1 : (i : Int) < 26 := by omega
  have hi2 : ¬ ((i : Int) < 0) := by omega
  have hi3 : decide ((i : Int) < 26) = true := decide_eq_true hi1
  have hi4 : ¬ (26 ≤ (i : Int)) := by omega
  obtain ⟨x, hx⟩ : ∃ x, x = nm i := ⟨_, rfl⟩
  obtain ⟨c, hc⟩ : ∃ c, c = cmpL (low (bl (nm i))) (low (bl s)) := ⟨_, rfl⟩
  have HP := Lib.hid (show findP s i = decide (0 ≤ c) by rw [hc]; rfl)
  rw [← hc, ← hx] at HC
  rw [← hx] at z0
  have HZ := Lib.hid z0
  have HB := Lib.hid hb
  clear hN hx hc hi hs
  go_enter Tryz.func68, Tryz.ntmps68
  go_wp2
  refine start_ (n := 7) (S := fun w' => w'.cell? ⟨0, i, none⟩ = some (.string x) ∧ w'.cell? ⟨b, 0, none⟩ = some (.string s)) (ds := []) #[false, false, false, false, false, false, false] (by kernel_rfl) rfl rfl ⟨HZ.out, HB.out⟩ (fun hHeld => ?_); refine with_tabW fi1_tab fi1_bits (fun HT_ HW_ => ?_)
  refine pu_ (i := 0) (N := some 4) HT_ (bl_ 7 1) ?_
  refine pu_ (i := 1) (N := some 5) HT_ (bl_ 7 3) ?_
  refine tk_ (i := 2) (N := some 6) HT_ HW_ (bl_ 7 7) hHeld ?_ (hy := by rintro w' ⟨s0, s1⟩; go_simp; with_reducible rfl)
  refine tk_ (i := 3) (N := some 7) HT_ HW_ (bl_ 7 15) hHeld ?_ (hy := by rintro w' ⟨s0, s1⟩; go_simp; with_reducible rfl)
  refine on_ (i := 4) (N := some 8) HT_ (bl_ 7 31) rfl rfl (fun K hK => ?_)
  refine gs_ Tryz.func69 #[.string x, .string s] ?_
  refine (HC.out W.drew).mono ?_
  rintro e w2 ⟨rfl, hb2⟩
  have HBB := Lib.hid (below_step (below_drew (Below.refl W.heap.size W)) hb2)
  refine ⟨_, rfl, ?_⟩
  refine hK.out _ _ ⟨pw_cell_below HBB.out HZ.out, pw_cell_below HBB.out HB.out⟩ (fun hHeld => ?_)
  clear hK K
  refine nm_ (some 8) ?_
  refine pu_ (i := 5) (N := some 9) HT_ (bl_ 7 63) ?_
  refine pu_ (i := 6) (N := some 3) HT_ (bl_ 7 127) ?_
  refine done_ (done_of HT_.out (by kernel_rfl)) ?_
  go_wp2
  go_ret
  refine ⟨?_, HBB.out⟩
  rw [HP.out]
  rfl
theorem srch_le (p : Nat → Bool) : ∀ n i j, i ≤ j → i ≤ srch p n i j ∧ srch p n i j ≤ j
  | 0, i, j, h => ⟨Nat.le_refl _, h⟩
  | n + 1, i, j, h => by
    rw [srch]
    split
    · split
      · have := srch_le p n i ((i + j) / 2) (by omega)
        omega
      · have := srch_le p n ((i + j) / 2 + 1) j (by omega)
        omega
    · omega
set_option maxRecDepth 100000 in
set_option maxHeartbeats 1000000 in
theorem search_calls (b : Nat) (s : ByteArray) (hs : s.size ≤ 140737488355328) (W : World) (hN : NamesIn W) (hb : W.cell? ⟨b, 0, none⟩ = some (.string s)) :
    Calls Tryz.prog 67 #[.int .i64 26, .func (.func 68) #[] #[.pointer (some ⟨b, 0, none⟩)]] W fun e W' => e = .returned (.int .i64 (findI s : Int)) ∧ Below W.heap.size W W' := by
  have HN := Lib.hid hN
  have HB := Lib.hid hb
  have HS := Lib.hid hs
  have M0 := Lib.hid (show findI s = srch (findP s) 27 0 26 from rfl)
  obtain ⟨r, hr⟩ : ∃ r, r = findI s := ⟨_, rfl⟩
  have HR := Lib.hid hr
  rw [← hr] at M0 ⊢
  clear hN hb hs hr
  go_enter Tryz.func67, Tryz.ntmps67
  go_wp2
  go_loopw [5, 6] (fun iv jv wr => ∃ i j n : Nat, iv = .int .i64 (i : Int) ∧ jv = .int .i64 (j : Int) ∧ Hid (i ≤ j ∧ j ≤ 26 ∧ j - i < n) ∧ Hid (r = srch (findP s) n i j) ∧ Hid (Below W.heap.size W wr)) (fun iv jv _ => (intOf jv).toNat - (intOf iv).toNat)
  case atStart => exact ⟨0, 26, 27, rfl, rfl, Lib.hid (by omega), M0, Lib.hid (Below.refl _ _)⟩
  case round =>
    clear M0
    obtain ⟨i, j, n, rfl, rfl, hij, hM, hW⟩ := hrel
    have h1 := hij.out.1
    have h2 := hij.out.2.1
    obtain ⟨m, hm⟩ : ∃ m, n = m + 1 := ⟨n - 1, by have := hij.out.2.2; omega⟩
    subst hm
    by_cases hlt : i < j
    · have q0 : (i : Int) < (j : Int) := by omega
      have q1 : decide ((i : Int) < (j : Int)) = true := decide_eq_true q0
      obtain ⟨h, hh⟩ : ∃ h, h = (i + j) / 2 := ⟨_, rfl⟩
      have HH := Lib.hid hh
      have w1 : wrap64 ((i : Int) + (j : Int)) = (i : Int) + (j : Int) := by unfold wrap64; omega
      have HW2 := Lib.hid (show wrap64 ((h : Int) + 1) = ((h + 1 : Nat) : Int) by unfold wrap64; omega)
      have hh26 : h < 26 := by omega
      have he : ((i : Int) + (j : Int)) / 2 = (h : Int) := by omega
      have FP := Lib.hid (findP_calls b s HS.out h hh26 _ (HN.out.on hW.out) (pw_cell_below hW.out HB.out))
      have HLT := Lib.hid hlt
      by_cases cp : findP s h = true
      · rw [cp] at FP
        have HM := Lib.hid (show r = srch (findP s) m i h by have := hM.out; rwa [srch, if_pos hlt, ← hh, if_pos cp] at this)
        clear hh cp hh26 hlt
        go_wp2_with (go_at_call 68; refine FP.out.mono ?_; rintro e w2 ⟨rfl, hb⟩; have HBB := Lib.hid hb; clear hb)
        refine ⟨⟨i, h, m, rfl, rfl, Lib.hid (by have := hij.out; have := HH.out; have := HLT.out; omega), HM, Lib.hid (below_step hW.out HBB.out)⟩, ?_⟩
        show (h : Int).toNat - (i : Int).toNat < (j : Int).toNat - (i : Int).toNat
        have := HH.out
        have := HLT.out
        omega
      · have cp' : findP s h = false := by simpa using cp
        rw [cp'] at FP
        have HM := Lib.hid (show r = srch (findP s) m (h + 1) j by have := hM.out; rwa [srch, if_pos hlt, ← hh, if_neg cp] at this)
        clear hh cp cp' hh26 hlt
        go_wp2_with (go_at_call 68; refine FP.out.mono ?_; rintro e w2 ⟨rfl, hb⟩; have HBB := Lib.hid hb; clear hb)
        refine ⟨⟨h + 1, j, m, rfl, rfl, Lib.hid (by have := hij.out; have := HH.out; have := HLT.out; omega), HM, Lib.hid (below_step hW.out HBB.out)⟩, ?_⟩
        show (j : Int).toNat - ((h : Int) + 1).toNat < (j : Int).toNat - (i : Int).toNat
        have := HH.out
        have := HLT.out
        omega
    · have q0 : ¬ ((i : Int) < (j : Int)) := by omega
      have q1 : decide ((i : Int) < (j : Int)) = false := decide_eq_false q0
      have HM := Lib.hid (show r = i by have := hM.out; rwa [srch, if_neg hlt] at this)
      go_wp2
      go_ret
      rw [HM.out]
      exact ⟨rfl, hW.out⟩
def FindSaid (W : World) (s : ByteArray) (e : Ending) (W' : World) : Prop := ∃ i : Int, e = .returned (.tuple #[.int .i64 i, .bool (isGrand s)]) ∧ Below W.heap.size W W'
set_option maxRecDepth 100000 in
set_option maxHeartbeats 1000000 in
theorem Find_calls (s : ByteArray) (hs : s.size ≤ 140737488355328) (W : World) (hN : NamesIn W) :
    Calls Tryz.prog 41 #[.string s] W fun e W' => FindSaid W s e W' := by
  have hB0 : Below W.heap.size W (W.alloc (.cells #[.string s] 9)) := below_alloc (Below.refl _ _) _
  have hb : (W.alloc (.cells #[.string s] 9)).cell? ⟨W.heap.size, 0, none⟩ = some (.string s) := (blk_cell (heap_alloc_new W (.cells #[.string s] 9)) 0).trans rfl
  have SC := Lib.hid (search_calls W.heap.size s hs _ (hN.on hB0) hb)
  have HN := Lib.hid hN
  have HBB := Lib.hid hB0
  have HBX0 := Lib.hid hb
  obtain ⟨r, hr⟩ : ∃ r, r = findI s := ⟨_, rfl⟩
  have HR := Lib.hid hr
  rw [← hr] at SC
  have hr26 : r ≤ 26 := by rw [hr]; exact (srch_le _ _ _ _ (by decide)).2
  have HC0 := Lib.hid (fun V : World => show Calls Tryz.prog 70 #[.string (nm r), .string s] V fun e W' => e = .returned (.bool (same (bl (nm r)) (bl s))) ∧ Below V.heap.size V W' from by
    obtain ⟨k, hk⟩ := (ascii_Same_ev (nm r) s (by have := nm_size r; omega) hs).rounds
    exact ascii_Same.calls k _ _ _ V hk)
  clear hN hB0 hb hs hr
  by_cases h26 : r < 26
  · obtain ⟨x, hx⟩ : ∃ x, x = nm r := ⟨_, rfl⟩
    obtain ⟨q, hq⟩ : ∃ q, q = same (bl (nm r)) (bl s) := ⟨_, rfl⟩
    have HG := Lib.hid (show isGrand s = q by unfold isGrand; rw [← HR.out, decide_eq_true h26, ← hq]; rfl)
    have HZ0 := Lib.hid (show W.cell? ⟨0, r, none⟩ = some (.string x) by rw [hx]; exact HN.out r h26)
    have HC := HC0
    rw [← hq, ← hx] at HC
    have q0 : ((r : Int) == 26) = false := beq_eq_false_iff_ne.2 (by omega)
    have q1 : (0 : Int) ≤ (r : Int) := by omega
    have q2 : (r : Int) < 26 := by omega
    have q3 : ¬ ((r : Int) < 0) := by omega
    have q4 : ¬ ((r : Int) = 26) := by omega
    clear hx hq HC0 h26 hr26
    go_enter Tryz.func41, Tryz.ntmps41
    go_wp2_with (go_at_call 67; refine SC.out.mono ?_; rintro e w2 ⟨rfl, hb⟩; have HB2 := Lib.hid (below_step HBB.out hb); have HBX := Lib.hid (pw_cell_below hb HBX0.out); have HZ := Lib.hid (pw_cell_below (below_step HBB.out hb) HZ0.out); clear hb)
    refine start_ (n := 10) (S := fun w' => w'.cell? ⟨0, r, none⟩ = some (.string x) ∧ w'.cell? ⟨W.heap.size, 0, none⟩ = some (.string s)) (ds := []) #[false, false, false, false, false, false, false, false, false, false] (by kernel_rfl) rfl rfl ⟨HZ.out, HBX.out⟩ (fun hHeld => ?_); refine with_tabW fi2_tab fi2_bits (fun HT_ HW_ => ?_)
    refine pu_ (i := 0) (N := some 7) HT_ (bl_ 10 1) ?_
    refine pu_ (i := 1) (N := some 8) HT_ (bl_ 10 3) ?_
    refine pu_ (i := 2) (N := some 9) HT_ (bl_ 10 7) ?_
    refine pu_ (i := 3) (N := some 10) HT_ (bl_ 10 15) ?_
    refine pu_ (i := 4) (N := some 11) HT_ (bl_ 10 31) ?_
    refine tk_ (i := 5) (N := some 12) HT_ HW_ (bl_ 10 63) hHeld ?_ (hy := by rintro w' ⟨s0, s1⟩; go_simp; with_reducible rfl)
    refine tk_ (i := 6) (N := some 13) HT_ HW_ (bl_ 10 127) hHeld ?_ (hy := by rintro w' ⟨s0, s1⟩; go_simp; with_reducible rfl)
    refine on_ (i := 7) (N := some 14) HT_ (bl_ 10 255) rfl rfl (fun K hK => ?_)
    refine gs_ Tryz.func70 #[.string x, .string s] ?_
    refine (HC.out w2.drew).mono ?_
    rintro e w3 ⟨rfl, hb3⟩
    have HB3 := Lib.hid (below_step (below_drew HB2.out) hb3)
    refine ⟨_, rfl, ?_⟩
    refine hK.out _ _ ⟨pw_cell_below (w := w2.drew) hb3 HZ.out, pw_cell_below (w := w2.drew) hb3 HBX.out⟩ (fun hHeld => ?_)
    clear hK K
    refine nm_ (some 14) ?_
    refine pu_ (i := 8) (N := some 15) HT_ (bl_ 10 511) ?_
    refine pu_ (i := 9) (N := some 16) HT_ (bl_ 10 1023) ?_
    refine done_ (done_of HT_.out (by kernel_rfl)) ?_
    cases q with
    | true =>
      go_wp2
      refine bodyPost_ret (results_tmp2 rfl _ _ _) rfl ?_
      exact ⟨_, by rw [HG.out]; rfl, HB3.out⟩
    | false =>
      go_wp2
      refine bodyPost_ret (results_tmp2 rfl _ _ _) rfl ?_
      exact ⟨_, by rw [HG.out]; rfl, HB3.out⟩
  · have hr : r = 26 := by omega
    subst hr
    have HG := Lib.hid (show isGrand s = false by unfold isGrand; rw [← HR.out]; rfl)
    clear HC0 h26 hr26
    go_enter Tryz.func41, Tryz.ntmps41
    go_wp2_with (go_at_call 67; refine SC.out.mono ?_; rintro e w2 ⟨rfl, hb⟩; have HB2 := Lib.hid (below_step HBB.out hb); clear hb)
    refine start_ (n := 10) (S := fun w' => True) (ds := []) #[false, false, false, false, false, false, false, false, false, false] (by kernel_rfl) rfl rfl trivial (fun hHeld => ?_); refine with_tabW fi2_tab fi2_bits (fun HT_ HW_ => ?_)
    refine pu_ (i := 0) (N := some 7) HT_ (bl_ 10 1) ?_
    refine pu_ (i := 1) (N := some 8) HT_ (bl_ 10 3) ?_
    refine pu_ (i := 2) (N := some 9) HT_ (bl_ 10 7) ?_
    refine po_ (i := 3) (N := some 10) HT_ (bl_ 10 15) ?_
    refine po_ (i := 4) (N := some 11) HT_ (bl_ 10 31) ?_
    refine po_ (i := 5) (N := some 12) HT_ (bl_ 10 63) ?_
    refine po_ (i := 6) (N := some 13) HT_ (bl_ 10 127) ?_
    refine po_ (i := 7) (N := some 14) HT_ (bl_ 10 255) ?_
    refine po_ (i := 8) (N := some 15) HT_ (bl_ 10 511) ?_
    refine pu_ (i := 9) (N := some 16) HT_ (bl_ 10 1023) ?_
    refine done_ (done_of HT_.out (by kernel_rfl)) ?_
    go_wp2
    refine bodyPost_ret (results_tmp2 rfl _ _ _) rfl ?_
    exact ⟨_, by rw [HG.out]; rfl, below_drew HB2.out⟩
end Go.Proofs.YtejnfbfikadpdaaGreatDoor.P
