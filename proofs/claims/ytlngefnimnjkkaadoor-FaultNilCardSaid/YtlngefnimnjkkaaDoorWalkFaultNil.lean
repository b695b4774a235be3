/- The law FaultNil, walked by hand. Condition: strconv's table is as it is. -/
import Derived.Test.YtlngefnimnjkkaaDoorWalkAwake
import Derived.Test.YtlngefnimnjkkaaDoorHandError
import Derived.Test.YtlngefnimnjkkaaDoorPureDigits
namespace Go.Proofs.YtlngefnimnjkkaaDoor.P
open Go.RowKit Go.Shelf Go.Proofs.YtlngefnimnjkkaaDoorW.PrintWords
attribute [local go_sem] Oper.semAt_some
set_option linter.unusedVariables false
set_option linter.unusedSimpArgs false
def isoglosslaw01_FaultNil.f (k : Nat) (a0 : Int) (a1 : ByteArray) : Option Bool :=
  (isoglossref01_Digits.f k a0).bind fun d => if -9223372036854775808 ≤ a0 ∧ a0 ≤ 9223372036854775807 ∧ d = ⟨(Lib.itoa a0).toArray⟩ then some true else none
theorem Unwrap_nil (w : World) : Calls Tryd.prog 21 #[.pointer none] w fun e w' => e = .returned .nilIface ∧ w' = w := by
  go_enter Tryd.func21, Tryd.ntmps21
  go_wp2
  go_ret
  exact ⟨rfl, rfl⟩
theorem Unwrap_at (B : Nat) (p : Int) (s : ByteArray) (w : World) (hf : FaultAt w (B, p, s) .nilIface) : Calls Tryd.prog 21 #[.pointer (some ⟨B, 0, none⟩)] w fun e w' => e = .returned .nilIface ∧ w' = w := by
  have f2 := hf.inner
  clear hf
  go_enter Tryd.func21, Tryd.ntmps21
  go_wp2
  go_ret
  exact ⟨rfl, rfl⟩
theorem plain_eq (p : Int) (s : ByteArray) : plainText p s = s ++ ⟨#[32, 97, 116, 32]⟩ ++ ⟨(Lib.itoa p).toArray⟩ ++ ⟨#[58, 32, 110, 111, 110, 101]⟩ := by
  unfold plainText
  apply ByteArray.ext
  simp
theorem extract12 (s : ByteArray) (h : 12 < s.size) : (s.extract 0 12).size = 12 := by
  rw [ByteArray.size_extract]; omega
set_option maxRecDepth 100000 in
set_option maxHeartbeats 8000000 in
theorem faultNil_short (k : Nat) (a0 : Int) (a1 : ByteArray) (w : World) (htab : Lib.TabIs Tryd.prog w "internal/strconv.uint64pow10" .u64 Lib.pow10Tab) (hg : w.cell? ⟨0, 0, none⟩ = some errGV) (h0 : -9223372036854775808 ≤ a0) (h1 : a0 ≤ 9223372036854775807) (hd : isoglossref01_Digits.f k a0 = some ⟨(Lib.itoa a0).toArray⟩) (hs : a1.size ≤ 12) :
    Calls Tryd.prog 6 #[.int .i64 a0, .string a1] w fun e w' => e = .returned (.bool true) ∧ Below w.heap.size w w' := by
  have hS : (a1).size ≤ 12 := hs
  obtain ⟨X, hX⟩ : ∃ X : ByteArray, X = ⟨(Lib.itoa a0).toArray⟩ := ⟨_, rfl⟩
  have hX21 : X.size ≤ 21 := by rw [hX]; exact Lib.itoa_length_le a0 h0 h1
  have HT := Lib.hid (Lib.tabBelow_of_tabIs htab)
  have hB0 : Below w.heap.size w (w.alloc (.cells #[.int .i64 a0, .string (a1), .nilIface] 47)) := (Below.refl w.heap.size w).alloc (Nat.le_refl _) _
  have F0 := Lib.hid (fault_at w a0 (a1) .nilIface)
  have B0 := Lib.hid hB0
  have G0 := Lib.hid (pw_cell_below hB0 hg)
  have DC := Lib.hid (fun (W : World) => show Calls Tryd.prog 23 #[.int .i64 a0] W fun e w' => e = .returned (.string X) ∧ Below W.heap.size W w' from by
    rw [hX]; exact isoglossref01_Digits.calls k a0 _ W hd)
  have EC := Lib.hid (fun (W : World) (hf : FaultAt W (w.heap.size, a0, a1) .nilIface) (hb : Below w.heap.size w W) => show Calls Tryd.prog 22 #[.pointer (some ⟨w.heap.size, 0, none⟩)] W fun e w' => e = .returned (.string ((a1) ++ ⟨#[32, 97, 116, 32]⟩ ++ X ++ ⟨#[58, 32, 110, 111, 110, 101]⟩)) ∧ Below W.heap.size W w' from by
    have := Error_at w.heap.size a0 (a1) 0 W hS h0 h1 hf (HT.out.on hb).here
    rwa [plain_eq, ← hX] at this)
  have q1 : (a1).size + 4 ≤ 9223372036854775807 := by omega
  have q2 : (a1).size + 4 + X.size ≤ 9223372036854775807 := by omega
  have q3 : (a1).size + 4 + X.size + 6 ≤ 9223372036854775807 := by omega
  have z1 : (a1).size + (⟨#[32, 97, 116, 32]⟩ : ByteArray).size ≤ 9223372036854775807 := q1
  have z2 : ((a1) ++ ⟨#[32, 97, 116, 32]⟩).size + X.size ≤ 9223372036854775807 := by rw [ByteArray.size_append]; exact q2
  have z3 : ((a1) ++ ⟨#[32, 97, 116, 32]⟩ ++ X).size + (⟨#[58, 32, 110, 111, 110, 101]⟩ : ByteArray).size ≤ 9223372036854775807 := by rw [ByteArray.size_append, ByteArray.size_append]; exact q3
  have r1 : (a1).size ≤ 9223372036854775803 := by omega
  have r3 : (a1).size + 4 + X.size ≤ 9223372036854775801 := by omega
  clear hX hX21 h0 h1 htab hg hd hB0 hS HT
  have c0 : ¬ 12 < a1.size := by omega
  have c1 : ¬ 12 < (a1.size : Int) := by omega
  go_enter Tryd.func6, Tryd.ntmps6
  go_wp2_with (first
    | (go_at_call 21; (with_reducible refine (Unwrap_nil _).mono ?_); rintro e w' ⟨rfl, rfl⟩)
    | (go_at_call 21; (with_reducible refine (Unwrap_at _ _ _ _ F0.out).mono ?_); rintro e w' ⟨rfl, rfl⟩)
    | (go_at_call 11; (with_reducible refine (New_nil _ _ _).mono ?_); rintro e w' ⟨rfl, rfl⟩)
    | (go_at_call 12; (with_reducible refine (Wrap_nil _ _ _).mono ?_); rintro e w' ⟨rfl, rfl⟩)
    | (go_at_call 9; (with_reducible refine (isoglosslaw01_awake.calls _ G0.out).mono ?_); rintro e w2 ⟨rfl, hb⟩; have F2 := Lib.hid (F0.out.below hb); have G2 := Lib.hid (pw_cell_below hb G0.out); have B2 := Lib.hid (below_step B0.out hb); clear hb F0 G0 B0)
    | (go_at_call 22; (with_reducible refine (Error_nil _).mono ?_); rintro e w3 ⟨rfl, hb⟩; have F3 := Lib.hid (F2.out.below hb); have G3 := Lib.hid (pw_cell_below hb G2.out); have B3 := Lib.hid (below_step B2.out hb); clear hb F2 G2 B2)
    | (go_at_call 22; (with_reducible refine (EC.out _ F3.out B3.out).mono ?_); rintro e w4 ⟨rfl, hb⟩; have F4 := Lib.hid (F3.out.below hb); have G4 := Lib.hid (pw_cell_below hb G3.out); have B4 := Lib.hid (below_step B3.out hb); clear hb F3 G3 B3)
    | (go_at_call 23; (with_reducible refine (DC.out _).mono ?_); rintro e w5 ⟨rfl, hb⟩; have F5 := Lib.hid (F4.out.below hb); have G5 := Lib.hid (pw_cell_below hb G4.out); have B5 := Lib.hid (below_step B4.out hb); clear hb F4 G4 B4)
    | (go_at_call 13; refine (Kind_any .nil .nilIface _ G5.out rfl).mono ?_; rintro e w6 ⟨he, hb⟩; obtain rfl : e = .returned (.int .i64 0) := he; have F6 := Lib.hid (F5.out.below hb); have G6 := Lib.hid (pw_cell_below hb G5.out); have B6 := Lib.hid (below_step B5.out hb); clear hb F5 G5 B5)
    | (go_at_call 13; refine (Kind_any (.fault w.heap.size a0 (a1) .nil) _ _ G6.out ⟨rfl, _, F6.out, rfl⟩).mono ?_; rintro e w7 ⟨he, hb⟩; obtain rfl : e = .returned (.int .i64 1) := he; have F7 := Lib.hid (F6.out.below hb); have B7 := Lib.hid (below_step B6.out hb); clear hb F6 G6 B6)
    | (go_at_call 16; refine (Place_calls _ _ _ _ (E.err (x := .fault w.heap.size a0 (a1) .nil) ⟨rfl, _, F7.out, rfl⟩)).mono ?_; rintro e w8 ⟨he, hb⟩; obtain rfl : e = .returned (.int .i64 a0) := he; have B8 := Lib.hid (below_step B7.out hb); clear hb F7 B7)
    | (go_at_call 16; refine (Place_calls _ _ _ _ (E.err (x := .nil) rfl)).mono ?_; rintro e w9 ⟨he, hb⟩; obtain rfl : e = .returned (.int .i64 (-1)) := he; have B9 := Lib.hid (below_step B8.out hb); clear hb B8)
    | (go_at_call 14; refine (Total_calls _ _ _ _ (E.err (x := .nil) rfl)).mono ?_; rintro e w10 ⟨he, hb⟩; obtain rfl : e = .returned (.int .i64 0) := he; have B10 := Lib.hid (below_step B9.out hb); clear hb B9)
    | (go_at_call 15; refine (Whats_calls _ _ _ _ (E.err (x := .nil) rfl) (Nat.zero_le _)).mono ?_; rintro e w11 ⟨v11, rfl, ho, hb⟩; obtain ⟨A11, c11, rfl⟩ := Kd.R_slice ho; have B11 := Lib.hid (below_step B10.out hb); clear hb ho B10))
  go_ret
  exact ⟨rfl, B11.out⟩
set_option maxRecDepth 100000 in
set_option maxHeartbeats 8000000 in
theorem faultNil_long (k : Nat) (a0 : Int) (a1 : ByteArray) (w : World) (htab : Lib.TabIs Tryd.prog w "internal/strconv.uint64pow10" .u64 Lib.pow10Tab) (hg : w.cell? ⟨0, 0, none⟩ = some errGV) (h0 : -9223372036854775808 ≤ a0) (h1 : a0 ≤ 9223372036854775807) (hd : isoglossref01_Digits.f k a0 = some ⟨(Lib.itoa a0).toArray⟩) (hs : 12 < a1.size) :
    Calls Tryd.prog 6 #[.int .i64 a0, .string a1] w fun e w' => e = .returned (.bool true) ∧ Below w.heap.size w w' := by
  have hS : (a1.extract 0 12).size ≤ 12 := by rw [extract12 a1 hs]; exact Nat.le_refl _
  obtain ⟨X, hX⟩ : ∃ X : ByteArray, X = ⟨(Lib.itoa a0).toArray⟩ := ⟨_, rfl⟩
  have hX21 : X.size ≤ 21 := by rw [hX]; exact Lib.itoa_length_le a0 h0 h1
  have HT := Lib.hid (Lib.tabBelow_of_tabIs htab)
  have hB0 : Below w.heap.size w (w.alloc (.cells #[.int .i64 a0, .string (a1.extract 0 12), .nilIface] 47)) := (Below.refl w.heap.size w).alloc (Nat.le_refl _) _
  have F0 := Lib.hid (fault_at w a0 (a1.extract 0 12) .nilIface)
  have B0 := Lib.hid hB0
  have G0 := Lib.hid (pw_cell_below hB0 hg)
  have DC := Lib.hid (fun (W : World) => show Calls Tryd.prog 23 #[.int .i64 a0] W fun e w' => e = .returned (.string X) ∧ Below W.heap.size W w' from by
    rw [hX]; exact isoglossref01_Digits.calls k a0 _ W hd)
  have EC := Lib.hid (fun (W : World) (hf : FaultAt W (w.heap.size, a0, a1.extract 0 12) .nilIface) (hb : Below w.heap.size w W) => show Calls Tryd.prog 22 #[.pointer (some ⟨w.heap.size, 0, none⟩)] W fun e w' => e = .returned (.string ((a1.extract 0 12) ++ ⟨#[32, 97, 116, 32]⟩ ++ X ++ ⟨#[58, 32, 110, 111, 110, 101]⟩)) ∧ Below W.heap.size W w' from by
    have := Error_at w.heap.size a0 (a1.extract 0 12) 0 W hS h0 h1 hf (HT.out.on hb).here
    rwa [plain_eq, ← hX] at this)
  have q1 : (a1.extract 0 12).size + 4 ≤ 9223372036854775807 := by omega
  have q2 : (a1.extract 0 12).size + 4 + X.size ≤ 9223372036854775807 := by omega
  have q3 : (a1.extract 0 12).size + 4 + X.size + 6 ≤ 9223372036854775807 := by omega
  have z1 : (a1.extract 0 12).size + (⟨#[32, 97, 116, 32]⟩ : ByteArray).size ≤ 9223372036854775807 := q1
  have z2 : ((a1.extract 0 12) ++ ⟨#[32, 97, 116, 32]⟩).size + X.size ≤ 9223372036854775807 := by rw [ByteArray.size_append]; exact q2
  have z3 : ((a1.extract 0 12) ++ ⟨#[32, 97, 116, 32]⟩ ++ X).size + (⟨#[58, 32, 110, 111, 110, 101]⟩ : ByteArray).size ≤ 9223372036854775807 := by rw [ByteArray.size_append, ByteArray.size_append]; exact q3
  have r1 : (a1.extract 0 12).size ≤ 9223372036854775803 := by omega
  have r3 : (a1.extract 0 12).size + 4 + X.size ≤ 9223372036854775801 := by omega
  clear hX hX21 h0 h1 htab hg hd hB0 hS HT
  have c1 : 12 < (a1.size : Int) := by omega
  go_enter Tryd.func6, Tryd.ntmps6
  go_wp2_with (first
    | (go_at_call 21; (with_reducible refine (Unwrap_nil _).mono ?_); rintro e w' ⟨rfl, rfl⟩)
    | (go_at_call 21; (with_reducible refine (Unwrap_at _ _ _ _ F0.out).mono ?_); rintro e w' ⟨rfl, rfl⟩)
    | (go_at_call 11; (with_reducible refine (New_nil _ _ _).mono ?_); rintro e w' ⟨rfl, rfl⟩)
    | (go_at_call 12; (with_reducible refine (Wrap_nil _ _ _).mono ?_); rintro e w' ⟨rfl, rfl⟩)
    | (go_at_call 9; (with_reducible refine (isoglosslaw01_awake.calls _ G0.out).mono ?_); rintro e w2 ⟨rfl, hb⟩; have F2 := Lib.hid (F0.out.below hb); have G2 := Lib.hid (pw_cell_below hb G0.out); have B2 := Lib.hid (below_step B0.out hb); clear hb F0 G0 B0)
    | (go_at_call 22; (with_reducible refine (Error_nil _).mono ?_); rintro e w3 ⟨rfl, hb⟩; have F3 := Lib.hid (F2.out.below hb); have G3 := Lib.hid (pw_cell_below hb G2.out); have B3 := Lib.hid (below_step B2.out hb); clear hb F2 G2 B2)
    | (go_at_call 22; (with_reducible refine (EC.out _ F3.out B3.out).mono ?_); rintro e w4 ⟨rfl, hb⟩; have F4 := Lib.hid (F3.out.below hb); have G4 := Lib.hid (pw_cell_below hb G3.out); have B4 := Lib.hid (below_step B3.out hb); clear hb F3 G3 B3)
    | (go_at_call 23; (with_reducible refine (DC.out _).mono ?_); rintro e w5 ⟨rfl, hb⟩; have F5 := Lib.hid (F4.out.below hb); have G5 := Lib.hid (pw_cell_below hb G4.out); have B5 := Lib.hid (below_step B4.out hb); clear hb F4 G4 B4)
    | (go_at_call 13; refine (Kind_any .nil .nilIface _ G5.out rfl).mono ?_; rintro e w6 ⟨he, hb⟩; obtain rfl : e = .returned (.int .i64 0) := he; have F6 := Lib.hid (F5.out.below hb); have G6 := Lib.hid (pw_cell_below hb G5.out); have B6 := Lib.hid (below_step B5.out hb); clear hb F5 G5 B5)
    | (go_at_call 13; refine (Kind_any (.fault w.heap.size a0 (a1.extract 0 12) .nil) _ _ G6.out ⟨rfl, _, F6.out, rfl⟩).mono ?_; rintro e w7 ⟨he, hb⟩; obtain rfl : e = .returned (.int .i64 1) := he; have F7 := Lib.hid (F6.out.below hb); have B7 := Lib.hid (below_step B6.out hb); clear hb F6 G6 B6)
    | (go_at_call 16; refine (Place_calls _ _ _ _ (E.err (x := .fault w.heap.size a0 (a1.extract 0 12) .nil) ⟨rfl, _, F7.out, rfl⟩)).mono ?_; rintro e w8 ⟨he, hb⟩; obtain rfl : e = .returned (.int .i64 a0) := he; have B8 := Lib.hid (below_step B7.out hb); clear hb F7 B7)
    | (go_at_call 16; refine (Place_calls _ _ _ _ (E.err (x := .nil) rfl)).mono ?_; rintro e w9 ⟨he, hb⟩; obtain rfl : e = .returned (.int .i64 (-1)) := he; have B9 := Lib.hid (below_step B8.out hb); clear hb B8)
    | (go_at_call 14; refine (Total_calls _ _ _ _ (E.err (x := .nil) rfl)).mono ?_; rintro e w10 ⟨he, hb⟩; obtain rfl : e = .returned (.int .i64 0) := he; have B10 := Lib.hid (below_step B9.out hb); clear hb B9)
    | (go_at_call 15; refine (Whats_calls _ _ _ _ (E.err (x := .nil) rfl) (Nat.zero_le _)).mono ?_; rintro e w11 ⟨v11, rfl, ho, hb⟩; obtain ⟨A11, c11, rfl⟩ := Kd.R_slice ho; have B11 := Lib.hid (below_step B10.out hb); clear hb ho B10))
  go_ret
  exact ⟨rfl, B11.out⟩
theorem isoglosslaw01_FaultNil.calls (k : Nat) (a0 : Int) (a1 : ByteArray) (r0 : Bool) (w : World) (htab : Lib.TabIs Tryd.prog w "internal/strconv.uint64pow10" .u64 Lib.pow10Tab) (hg : w.cell? ⟨0, 0, none⟩ = some errGV) (h : isoglosslaw01_FaultNil.f k a0 a1 = some r0) (hrt : r0 = true) :
    Calls Tryd.prog 6 #[.int .i64 a0, .string a1] w fun e w' => e = .returned (.bool r0) ∧ Below w.heap.size w w' := by
  unfold isoglosslaw01_FaultNil.f at h
  obtain ⟨d, e1, h1⟩ := Option.bind_eq_some_iff.1 h
  obtain ⟨h0, h2, hd⟩ : -9223372036854775808 ≤ a0 ∧ a0 ≤ 9223372036854775807 ∧ d = ⟨(Lib.itoa a0).toArray⟩ := by
    by_cases c : -9223372036854775808 ≤ a0 ∧ a0 ≤ 9223372036854775807 ∧ d = ⟨(Lib.itoa a0).toArray⟩
    · exact c
    · rw [if_neg c] at h1; cases h1
  subst hrt hd
  by_cases hs : 12 < a1.size
  · exact faultNil_long k a0 a1 w htab hg h0 h2 e1 hs
  · exact faultNil_short k a0 a1 w htab hg h0 h2 e1 (by omega)
end Go.Proofs.YtlngefnimnjkkaaDoor.P
