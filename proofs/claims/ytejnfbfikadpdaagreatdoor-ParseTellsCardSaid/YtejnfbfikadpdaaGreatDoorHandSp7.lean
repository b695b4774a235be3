/- The law's functions rest and spoilt, walked: a place within; a text of one byte more at most. -/
import Derived.Test.YtejnfbfikadpdaaGreatDoorPx1
import Derived.Test.YtejnfbfikadpdaaGreatDoorHandLaw
import Derived.Test.YtejnfbfikadpdaaGreatDoorHandDo1
import Derived.Test.YtejnfbfikadpdaaGreatDoorPx10
namespace Go.Proofs.YtejnfbfikadpdaaGreatDoor.P
open Go.RowKit Go.Shelf Go.Proofs.YtejnfbfikadpdaaGreatDoorW.PrintWords Go.Proofs.YtejnfbfikadpdaaGreatDoorW.PrintLast Go.Proofs.YtejnfbfikadpdaaGreatDoorW.PrintMore Go.Proofs.YtejnfbfikadpdaaGreatDoor.Iso
set_option linter.unusedVariables false
set_option linter.unusedSimpArgs false
attribute [local go_sem] Oper.semAt_some
theorem rest_calls (x n : Int) (h0 : 0 < n) (h1 : n ≤ 1000000) : ∃ r : Int, 0 ≤ r ∧ r < n ∧ ∀ W, Calls Tryz.prog 20 #[.int .i64 x, .int .i64 n] W fun e W' => e = .returned (.int .i64 r) ∧ Below W.heap.size W W' := by
  have t1 : Int.tmod x n < n := Int.tmod_lt_of_pos x h0
  have t2 : -n < Int.tmod x n := by
    have h := Int.tmod_lt_of_pos (-x) h0
    rw [Int.neg_tmod] at h; omega
  have hw : wrap64 (Int.tmod x n + n) = Int.tmod x n + n := by unfold wrap64; omega
  refine ⟨Int.tmod (wrap64 (Int.tmod x n + n)) n, ?_, Int.tmod_lt_of_pos _ h0, fun W => ?_⟩
  · rw [hw]; exact Int.tmod_nonneg _ (by omega)
  · refine (w7_rest.calls x n _ W ?_).mono fun e W' ⟨he, hd⟩ => ⟨he, hd.below⟩
    unfold w7_rest.f
    rw [if_neg (by omega)]
theorem byte_string (W : World) (z : Int) : (convert 79 9 (.slice (some ⟨W.heap.size, 0, none⟩) 1 1)).run Tryz.prog (W.alloc (.cells #[.int .u8 z] 5)) = .ok (.string (strOfNums [z])) (W.alloc (.cells #[.int .u8 z] 5)) :=
  run_convert_bytes_arg _ 79 5 Tryz.underlying79 Tryz.underlying5 W.heap.size 0 1 1 [z] rfl (fun i hi => by
    obtain rfl : i = 0 := by omega
    exact (blk_cell (new_blk W (.cells #[.int .u8 z] 5)) 0).trans rfl) 9 Tryz.underlying9
def ls7_T : Bool × List (List Nat × List Nat) := (true, [([], []), ([], []), ([0, 1], [0, 1]), ([], []), ([2, 3], [2, 3]), ([], []), ([], []), ([6], [6]), ([5, 7], [5, 7]), ([4, 8], [4, 8]), ([9, 0, 1, 2, 3, 4, 5, 6, 7, 8, 9], [9])])
def ls7_B : List Nat := [0, 0, 3, 0, 15, 0, 0, 64, 224, 511, 1023]
theorem ls7_tab : rtab .any (opsOf Tryz.f19 7) = ls7_T := by kernel_rfl
theorem ls7_bits : waitsOk ls7_T.2 ls7_B = true := by kernel_rfl
def ls9_T : Bool × List (List Nat × List Nat) := (true, [([], []), ([], []), ([0, 1], [0, 1]), ([], []), ([], []), ([4], [4]), ([3, 5], [3, 5]), ([2, 6], [2, 6]), ([7, 0, 1, 2, 3, 4, 5, 6, 7], [7])])
def ls9_B : List Nat := [0, 0, 3, 0, 0, 16, 56, 127, 255]
theorem ls9_tab : rtab .any (opsOf Tryz.f19 9) = ls9_T := by kernel_rfl
theorem ls9_bits : waitsOk ls9_T.2 ls9_B = true := by kernel_rfl
def ls10_T : Bool × List (List Nat × List Nat) := (true, [([], []), ([], []), ([0, 1], [0, 1]), ([], []), ([2, 3], [2, 3]), ([], []), ([], []), ([5, 6], [5, 6]), ([4, 7], [4, 7]), ([8, 0, 1, 2, 3, 4, 5, 6, 7, 8], [8])])
def ls10_B : List Nat := [0, 0, 3, 0, 15, 0, 0, 96, 255, 511]
theorem ls10_tab : rtab .any (opsOf Tryz.f19 10) = ls10_T := by kernel_rfl
theorem ls10_bits : waitsOk ls10_T.2 ls10_B = true := by kernel_rfl
set_option maxRecDepth 100000 in
set_option maxHeartbeats 4000000 in
theorem lspoilt_calls (s : ByteArray) (hs : s.size ≤ 100000) (q0 q1 q2 : Int) (w : World) :
    Calls Tryz.prog 19 #[.string s, .agg #[.int .i64 q0, .int .i64 q1, .int .i64 q2]] w fun e w' => ∃ t : ByteArray, e = .returned (.string t) ∧ t.size ≤ s.size + 1 ∧ Below w.heap.size w w' := by
  have HB1 := Lib.hid (below_alloc (Below.refl w.heap.size w) (.cells #[.int .i64 q0, .int .i64 q1, .int .i64 q2] 43))
  have K1 := Lib.hid (new_blk w (.cells #[.int .i64 q0, .int .i64 q1, .int .i64 q2] 43))
  have HS := Lib.hid hs
  obtain ⟨c, hc⟩ : ∃ c, c = strOfNums [q2 % 256] := ⟨_, rfl⟩
  have sc : c.size = 1 := by rw [hc]; rfl
  by_cases h0 : s = ⟨#[]⟩
  · subst h0
    have f2 := (blk_cell K1.out 2).trans rfl
    have hcv := byte_string (w.alloc (.cells #[.int .i64 q0, .int .i64 q1, .int .i64 q2] 43)) (q2 % 256)
    rw [show (w.alloc (.cells #[.int .i64 q0, .int .i64 q1, .int .i64 q2] 43)).heap.size = w.heap.size + 1 from by simp, ← hc] at hcv
    have SC := Lib.hid sc
    clear hc sc
    go_enter Tryz.func19, Tryz.ntmps19
    go_wp2
    go_ret
    exact ⟨c, rfl, by rw [SC.out]; exact Nat.le_add_left _ _, below_alloc HB1.out _⟩
  · have e0 : s.toList.isEmpty = false := by
      rw [List.isEmpty_eq_false_iff]
      exact fun e => h0 ((toL_nil s).1 e)
    have e1 : (s.toList == ([] : List UInt8)) = false := beq_eq_false_iff_ne.mpr (fun e => h0 ((toL_nil s).1 e))
    have hn : 0 < s.size := by
      rcases Nat.eq_zero_or_pos s.size with h | h
      · exact absurd (bl_inj (List.eq_nil_of_length_eq_zero (by rw [bl_len]; exact h) : bl s = bl ⟨#[]⟩)) h0
      · exact h
    obtain ⟨r, r0, r1, RC⟩ := rest_calls q1 (s.size : Int) (by omega) (by omega)
    obtain ⟨m, rfl⟩ : ∃ m : Nat, r = (m : Int) := ⟨r.toNat, by omega⟩
    obtain ⟨h, g0, g1, HC⟩ := rest_calls q0 3 (by omega) (by omega)
    have RC_ := Lib.hid RC
    have HC_ := Lib.hid HC
    have RM := Lib.hid (show m < s.size by omega)
    have w1 : wrap64 ((m : Int) + 1) = (m : Int) + 1 := by unfold wrap64; omega
    have z1 : (m : Int) ≤ (s.size : Int) := by omega
    have z2 : (m : Int) + 1 ≤ (s.size : Int) := by omega
    have z5 : (0 : Int) ≤ (m : Int) + 1 := by omega
    have z3 : m ≤ s.size := by omega
    have z4 : m + 1 ≤ s.size := by omega
    have SC := Lib.hid sc
    have HCc := Lib.hid hc
    have f1 := (blk_cell K1.out 1).trans rfl
    have hh : h = 0 ∨ h = 1 ∨ h = 2 := by omega
    clear RC HC r0 r1 g0 g1 hn h0 hc hs
    go_enter Tryz.func19, Tryz.ntmps19
    go_upto_region 6 with (first
      | (go_at_call 20; refine (RC_.out _).mono ?_; rintro e w2 ⟨rfl, hb⟩; have HB2 := Lib.hid (below_step HB1.out hb); have K2 := blk_on K1.out hb; have K3 := Lib.hid (blk_alloc1 K2 (.cells #[.int .u8 (q2 % 256)] 5)); have f2 := (blk_cell K2 2).trans rfl; have f0 := (blk_cell K3.out 0).trans rfl; have hcv := byte_string w2 (q2 % 256); rw [← HCc.out] at hcv; clear K2 hb K1 HB1 f1 RC_)
      | (go_at_call 20; refine (HC_.out _).mono ?_; rintro e w3 ⟨rfl, hb⟩; have HB3 := Lib.hid (below_step (below_alloc HB2.out _) hb); clear hb HB2 f0 f2 hcv K3 HC_))
    rcases hh with rfl | rfl | rfl
    · have HSo := HS.out
      have y3 : ¬ (9223372036854775807 < s.size) := by omega
      have y4 : ¬ (9223372036854775807 < s.size + 1) := by omega
      have y1 : ¬ (9223372036854775807 < m + 1) := by omega
      have y2 : ¬ (9223372036854775807 < m + 1 + (s.size - (m + 1))) := by omega
      go_wp2
      refine start_ (n := 11) (S := fun _ => True) (ds := []) #[false, false, false, false, false, false, false, false, false, false, false] (by kernel_rfl) rfl rfl trivial (fun hHeld => ?_); refine with_tabW ls7_tab ls7_bits (fun HT_ HW_ => ?_)
      refine pu_ (i := 0) (N := some 29) HT_ (bl_ 11 1) ?_
      refine pu_ (i := 1) (N := some 30) HT_ (bl_ 11 3) ?_
      refine pu_ (i := 2) (N := some 31) HT_ (bl_ 11 7) ?_
      refine pu_ (i := 3) (N := some 32) HT_ (bl_ 11 15) ?_
      refine pu_ (i := 4) (N := some 33) HT_ (bl_ 11 31) ?_
      refine pu_ (i := 5) (N := some 34) HT_ (bl_ 11 63) ?_
      refine pu_ (i := 6) (N := some 35) HT_ (bl_ 11 127) ?_
      refine pu_ (i := 7) (N := some 36) HT_ (bl_ 11 255) ?_
      refine pu_ (i := 8) (N := some 37) HT_ (bl_ 11 511) ?_
      refine pu_ (i := 9) (N := some 38) HT_ (bl_ 11 1023) ?_
      refine pu_ (i := 10) (N := some 4) HT_ (bl_ 11 2047) ?_
      refine done_ (done_of HT_.out (by kernel_rfl)) ?_
      go_wp2
      go_ret
      exact ⟨_, rfl, by have := RM.out; have := SC.out; simp only [ByteArray.size_append, ByteArray.size_extract]; omega, below_drew HB3.out⟩
    · have HSo := HS.out
      have y3 : ¬ (9223372036854775807 < s.size) := by omega
      have y4 : ¬ (9223372036854775807 < s.size + 1) := by omega
      have y1 : ¬ (9223372036854775807 < m + (s.size - (m + 1))) := by omega
      go_wp2
      refine start_ (n := 9) (S := fun _ => True) (ds := []) #[false, false, false, false, false, false, false, false, false] (by kernel_rfl) rfl rfl trivial (fun hHeld => ?_); refine with_tabW ls9_tab ls9_bits (fun HT_ HW_ => ?_)
      refine pu_ (i := 0) (N := some 41) HT_ (bl_ 9 1) ?_
      refine pu_ (i := 1) (N := some 42) HT_ (bl_ 9 3) ?_
      refine pu_ (i := 2) (N := some 43) HT_ (bl_ 9 7) ?_
      refine pu_ (i := 3) (N := some 44) HT_ (bl_ 9 15) ?_
      refine pu_ (i := 4) (N := some 45) HT_ (bl_ 9 31) ?_
      refine pu_ (i := 5) (N := some 46) HT_ (bl_ 9 63) ?_
      refine pu_ (i := 6) (N := some 47) HT_ (bl_ 9 127) ?_
      refine pu_ (i := 7) (N := some 48) HT_ (bl_ 9 255) ?_
      refine pu_ (i := 8) (N := some 4) HT_ (bl_ 9 511) ?_
      refine done_ (done_of HT_.out (by kernel_rfl)) ?_
      go_wp2
      go_ret
      exact ⟨_, rfl, by have := RM.out; have := SC.out; simp only [ByteArray.size_append, ByteArray.size_extract]; omega, below_drew HB3.out⟩
    · have HSo := HS.out
      have y3 : ¬ (9223372036854775807 < s.size) := by omega
      have y4 : ¬ (9223372036854775807 < s.size + 1) := by omega
      have y1 : ¬ (9223372036854775807 < m + 1) := by omega
      have y2 : ¬ (9223372036854775807 < m + 1 + (s.size - m)) := by omega
      go_wp2
      refine start_ (n := 10) (S := fun _ => True) (ds := []) #[false, false, false, false, false, false, false, false, false, false] (by kernel_rfl) rfl rfl trivial (fun hHeld => ?_); refine with_tabW ls10_tab ls10_bits (fun HT_ HW_ => ?_)
      refine pu_ (i := 0) (N := some 49) HT_ (bl_ 10 1) ?_
      refine pu_ (i := 1) (N := some 50) HT_ (bl_ 10 3) ?_
      refine pu_ (i := 2) (N := some 51) HT_ (bl_ 10 7) ?_
      refine pu_ (i := 3) (N := some 52) HT_ (bl_ 10 15) ?_
      refine pu_ (i := 4) (N := some 53) HT_ (bl_ 10 31) ?_
      refine pu_ (i := 5) (N := some 54) HT_ (bl_ 10 63) ?_
      refine pu_ (i := 6) (N := some 55) HT_ (bl_ 10 127) ?_
      refine pu_ (i := 7) (N := some 56) HT_ (bl_ 10 255) ?_
      refine pu_ (i := 8) (N := some 57) HT_ (bl_ 10 511) ?_
      refine pu_ (i := 9) (N := some 4) HT_ (bl_ 10 1023) ?_
      refine done_ (done_of HT_.out (by kernel_rfl)) ?_
      go_wp2
      go_ret
      exact ⟨_, rfl, by have := RM.out; have := SC.out; simp only [ByteArray.size_append, ByteArray.size_extract]; omega, below_drew HB3.out⟩
end Go.Proofs.YtejnfbfikadpdaaGreatDoor.P
