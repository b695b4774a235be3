-- Written for this claim by the session's own run of the print, functions proved by hand put in.
import Derived.Test.YtojglflamecnkaaSq
import Derived.Test.YtojglflamecnkaaPx0
namespace Go.Proofs.Ytojglflamecnkaa.P
open Go.RowKit Go.Proofs.YtojglflamecnkaaW.PrintWords Go.Proofs.YtojglflamecnkaaW.PrintLast Go.Proofs.YtojglflamecnkaaW.PrintMore
attribute [local go_sem] max2_int min2_int max_two min_two max_three min_three max_four min_four   -- for this text's walks alone
set_option linter.unusedVariables false
set_option linter.unusedSimpArgs false
def ascii_upper.f (a0 : Int) : Option (Int) := if a0 ≥ 97 then (if a0 ≤ 122 then (some ((a0 - 32) % 256)) else (some a0)) else (some a0)
set_option maxHeartbeats 8000000 in
set_option maxRecDepth 100000 in
theorem ascii_upper.calls (a0 : Int) (r : Int) (w : World) (h : ascii_upper.f a0 = some r) :
  Calls Try.prog 61 #[.int .u8 a0] w fun e w' => e = .returned (.int .u8 r) ∧ Drawn0 w w' := by
 have H : (if a0 ≥ 97 then (if a0 ≤ 122 then (some ((a0 - 32) % 256)) else (some a0)) else (some a0)) = some r := h
 clear h
 by_cases c2 : a0 ≥ 97
 ·rw [if_pos c2] at H
  have aa : decide (97 ≤ a0) = true := decide_eq_true c2
  clear c2
  by_cases c3 : a0 ≤ 122
  ·rw [if_pos c3] at H
   have ab : decide (a0 ≤ 122) = true := decide_eq_true c3
   clear c3
   obtain rfl := Option.some.inj H
   go_enter Try.func61, Try.ntmps61
   go_wp2
   go_ret
   exact ⟨Qs, Q0⟩
  ·rw [if_neg c3] at H
   have ab : decide (a0 ≤ 122) = false := decide_eq_false c3
   clear c3
   obtain rfl := Option.some.inj H
   go_enter Try.func61, Try.ntmps61
   go_wp2
   go_ret
   exact ⟨Qs, Q0⟩
 ·rw [if_neg c2] at H
  have aa : decide (97 ≤ a0) = false := decide_eq_false c2
  clear c2
  obtain rfl := Option.some.inj H
  go_enter Try.func61, Try.ntmps61
  go_wp2
  go_ret
  exact ⟨Qs, Q0⟩
theorem ascii_Upper_byte (c : UInt8) : ascii_upper.f (c.toNat : Int) = some ((Iso.upC c).toNat : Int) := by
  have hc := c.toNat_lt
  have e : (Iso.upC c).toNat = if 97 ≤ c.toNat ∧ c.toNat ≤ 122 then c.toNat - 32 else c.toNat :=
    of_decide_eq_true (Iso.byte_all (fun c => decide ((Iso.upC c).toNat = if 97 ≤ c.toNat ∧ c.toNat ≤ 122 then c.toNat - 32 else c.toNat)) (by decide +kernel) c)
  unfold ascii_upper.f
  rw [e]
  by_cases h : 97 ≤ c.toNat ∧ c.toNat ≤ 122
  · rw [if_pos (by omega), if_pos (by omega), if_pos h]; congr 1; omega
  · rw [if_neg h]; split
    · rw [if_neg (by omega)]
    · rfl
theorem ascii_Upper_1_calls (i : Nat) (c : UInt8) (W : World) : Calls Try.prog 60 #[.int .i64 i, .int .u8 c.toNat] W fun e w' => e = .returned (.int .u8 (Iso.upC c).toNat) ∧ Below W.heap.size W w' := by
  have H := Lib.hid (ascii_Upper_byte c)
  go_enter Try.func60, Try.ntmps60
  go_wp2_with (go_at_call 61; refine (ascii_upper.calls _ _ _ H.out).mono ?_; rintro e w' ⟨rfl, hb⟩)
  go_ret
  exact ⟨rfl, hb.below⟩
def ascii_Upper.f (a0 : ByteArray) : Option ByteArray := if a0.size ≤ 140737488355328 then some (Iso.mk ((Iso.bl a0).mapIdx fun i c => Iso.upC c)) else none
set_option maxHeartbeats 8000000 in
set_option maxRecDepth 100000 in
theorem ascii_Upper.calls (a0 : ByteArray) (r : ByteArray) (w : World) (h : ascii_Upper.f a0 = some r) :
    Calls Try.prog 27 #[.string a0] w fun e w' => e = .returned (.string r) ∧ Below w.heap.size w w' := by
  unfold ascii_Upper.f at h
  have hs : a0.size ≤ 140737488355328 := by
    by_cases c2 : a0.size ≤ 140737488355328
    · exact c2
    · rw [if_neg c2] at h; cases h
  rw [if_pos hs] at h
  obtain rfl := Option.some.inj h
  have HC := Lib.hid (fun W => each_calls 60 (fun i c => Iso.upC c) (fun i c W => ascii_Upper_1_calls i c W) (enters_of Try.func60 (by kernel_rfl) rfl) a0 hs W)
  clear h
  go_enter Try.func27, Try.ntmps27
  go_wp2_with (go_at_call 59; refine (HC.out _).mono ?_; rintro e w' ⟨rfl, hb⟩)
  go_ret
  exact ⟨rfl, hb⟩
def ascii_lower.f (a0 : Int) : Option (Int) := if a0 ≥ 65 then (if a0 ≤ 90 then (some ((a0 + 32) % 256)) else (some a0)) else (some a0)
set_option maxHeartbeats 8000000 in
set_option maxRecDepth 100000 in
theorem ascii_lower.calls (a0 : Int) (r : Int) (w : World) (h : ascii_lower.f a0 = some r) :
  Calls Try.prog 63 #[.int .u8 a0] w fun e w' => e = .returned (.int .u8 r) ∧ Drawn0 w w' := by
 have H : (if a0 ≥ 65 then (if a0 ≤ 90 then (some ((a0 + 32) % 256)) else (some a0)) else (some a0)) = some r := h
 clear h
 by_cases c2 : a0 ≥ 65
 ·rw [if_pos c2] at H
  have aa : decide (65 ≤ a0) = true := decide_eq_true c2
  clear c2
  by_cases c3 : a0 ≤ 90
  ·rw [if_pos c3] at H
   have ab : decide (a0 ≤ 90) = true := decide_eq_true c3
   clear c3
   obtain rfl := Option.some.inj H
   go_enter Try.func63, Try.ntmps63
   go_wp2
   go_ret
   exact ⟨Qs, Q0⟩
  ·rw [if_neg c3] at H
   have ab : decide (a0 ≤ 90) = false := decide_eq_false c3
   clear c3
   obtain rfl := Option.some.inj H
   go_enter Try.func63, Try.ntmps63
   go_wp2
   go_ret
   exact ⟨Qs, Q0⟩
 ·rw [if_neg c2] at H
  have aa : decide (65 ≤ a0) = false := decide_eq_false c2
  clear c2
  obtain rfl := Option.some.inj H
  go_enter Try.func63, Try.ntmps63
  go_wp2
  go_ret
  exact ⟨Qs, Q0⟩
theorem ascii_Lower_byte (c : UInt8) : ascii_lower.f (c.toNat : Int) = some ((Iso.lowC c).toNat : Int) := by
  have hc := c.toNat_lt
  have e : (Iso.lowC c).toNat = if 65 ≤ c.toNat ∧ c.toNat ≤ 90 then c.toNat + 32 else c.toNat :=
    of_decide_eq_true (Iso.byte_all (fun c => decide ((Iso.lowC c).toNat = if 65 ≤ c.toNat ∧ c.toNat ≤ 90 then c.toNat + 32 else c.toNat)) (by decide +kernel) c)
  unfold ascii_lower.f
  rw [e]
  by_cases h : 65 ≤ c.toNat ∧ c.toNat ≤ 90
  · rw [if_pos (by omega), if_pos (by omega), if_pos h]; congr 1; omega
  · rw [if_neg h]; split
    · rw [if_neg (by omega)]
    · rfl
theorem ascii_Lower_1_calls (i : Nat) (c : UInt8) (W : World) : Calls Try.prog 66 #[.int .i64 i, .int .u8 c.toNat] W fun e w' => e = .returned (.int .u8 (Iso.lowC c).toNat) ∧ Below W.heap.size W w' := by
  have H := Lib.hid (ascii_Lower_byte c)
  go_enter Try.func66, Try.ntmps66
  go_wp2_with (go_at_call 63; refine (ascii_lower.calls _ _ _ H.out).mono ?_; rintro e w' ⟨rfl, hb⟩)
  go_ret
  exact ⟨rfl, hb.below⟩
def ascii_Lower.f (a0 : ByteArray) : Option ByteArray := if a0.size ≤ 140737488355328 then some (Iso.mk ((Iso.bl a0).mapIdx fun i c => Iso.lowC c)) else none
set_option maxHeartbeats 8000000 in
set_option maxRecDepth 100000 in
theorem ascii_Lower.calls (a0 : ByteArray) (r : ByteArray) (w : World) (h : ascii_Lower.f a0 = some r) :
    Calls Try.prog 30 #[.string a0] w fun e w' => e = .returned (.string r) ∧ Below w.heap.size w w' := by
  unfold ascii_Lower.f at h
  have hs : a0.size ≤ 140737488355328 := by
    by_cases c2 : a0.size ≤ 140737488355328
    · exact c2
    · rw [if_neg c2] at h; cases h
  rw [if_pos hs] at h
  obtain rfl := Option.some.inj h
  have HC := Lib.hid (fun W => each_calls 66 (fun i c => Iso.lowC c) (fun i c W => ascii_Lower_1_calls i c W) (enters_of Try.func66 (by kernel_rfl) rfl) a0 hs W)
  clear h
  go_enter Try.func30, Try.ntmps30
  go_wp2_with (go_at_call 59; refine (HC.out _).mono ?_; rintro e w' ⟨rfl, hb⟩)
  go_ret
  exact ⟨rfl, hb⟩
theorem ascii_Title_1_calls (i : Nat) (c : UInt8) (W : World) : Calls Try.prog 62 #[.int .i64 i, .int .u8 c.toNat] W fun e w' => e = .returned (.int .u8 (if i = 0 then Iso.upC c else Iso.lowC c).toNat) ∧ Below W.heap.size W w' := by
  have HU := Lib.hid (ascii_Upper_byte c)
  have HL := Lib.hid (ascii_Lower_byte c)
  by_cases h0 : i = 0
  · subst h0
    go_enter Try.func62, Try.ntmps62
    go_wp2_with (go_at_call 61; refine (ascii_upper.calls _ _ _ HU.out).mono ?_; rintro e w' ⟨rfl, hb⟩)
    go_ret
    exact ⟨rfl, hb.below⟩
  · have h1 : ((i : Int) == 0) = false := by simp [h0]
    have h2 : decide ((i : Int) = 0) = false := by simp [h0]
    rw [if_neg h0]
    go_enter Try.func62, Try.ntmps62
    go_wp2_with (go_at_call 63; refine (ascii_lower.calls _ _ _ HL.out).mono ?_; rintro e w' ⟨rfl, hb⟩)
    go_ret
    exact ⟨rfl, hb.below⟩
def ascii_Title.f (a0 : ByteArray) : Option ByteArray := if a0.size ≤ 140737488355328 then some (Iso.mk ((Iso.bl a0).mapIdx fun i c => if i = 0 then Iso.upC c else Iso.lowC c)) else none
set_option maxHeartbeats 8000000 in
set_option maxRecDepth 100000 in
theorem ascii_Title.calls (a0 : ByteArray) (r : ByteArray) (w : World) (h : ascii_Title.f a0 = some r) :
    Calls Try.prog 28 #[.string a0] w fun e w' => e = .returned (.string r) ∧ Below w.heap.size w w' := by
  unfold ascii_Title.f at h
  have hs : a0.size ≤ 140737488355328 := by
    by_cases c2 : a0.size ≤ 140737488355328
    · exact c2
    · rw [if_neg c2] at h; cases h
  rw [if_pos hs] at h
  obtain rfl := Option.some.inj h
  have HC := Lib.hid (fun W => each_calls 62 (fun i c => if i = 0 then Iso.upC c else Iso.lowC c) (fun i c W => ascii_Title_1_calls i c W) (enters_of Try.func62 (by kernel_rfl) rfl) a0 hs W)
  clear h
  go_enter Try.func28, Try.ntmps28
  go_wp2_with (go_at_call 59; refine (HC.out _).mono ?_; rintro e w' ⟨rfl, hb⟩)
  go_ret
  exact ⟨rfl, hb⟩
end Go.Proofs.Ytojglflamecnkaa.P
