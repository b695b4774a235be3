-- Written for this claim by the session's own run of the print, functions proved by hand put in.
import Derived.Test.YtojglflamecnkaaSq
import Derived.Test.YtojglflamecnkaaPx0
namespace Go.Proofs.Ytojglflamecnkaa.P
open Go.RowKit Go.Proofs.YtojglflamecnkaaW.PrintWords Go.Proofs.YtojglflamecnkaaW.PrintLast Go.Proofs.YtojglflamecnkaaW.PrintMore
attribute [local go_sem] max2_int min2_int max_two min_two max_three min_three max_four min_four   -- for this text's walks alone
set_option linter.unusedVariables false
set_option linter.unusedSimpArgs false
def r4_Join.l0 : Nat → List ByteArray → ByteArray → Int → Option (ByteArray)
 | 0, _, _, _ => none
 | k + 1, x0, x3, x4 => if x4 < (x0.length : Int) then (if x4 > 0 then (if x3.size + 1 ≤ 9223372036854775807 then (if 0 ≤ x4 then (if (x3 ++ (⟨#[45]⟩ : ByteArray)).size + (rdOf ByteArray.empty x0 x4).size ≤ 9223372036854775807 then (r4_Join.l0 k x0 ((x3 ++ (⟨#[45]⟩ : ByteArray)) ++ (rdOf ByteArray.empty x0 x4)) (wrap64 (x4 + 1))) else (none)) else (none)) else (none)) else (if 0 ≤ x4 then (if x3.size + (rdOf ByteArray.empty x0 x4).size ≤ 9223372036854775807 then (r4_Join.l0 k x0 (x3 ++ (rdOf ByteArray.empty x0 x4)) (wrap64 (x4 + 1))) else (none)) else (none))) else (some x3)
def r4_Join.f (k : Nat) (l0 : List ByteArray) : Option (ByteArray) := r4_Join.l0 k l0 (⟨#[]⟩ : ByteArray) 0
set_option maxHeartbeats 8000000 in
set_option maxRecDepth 100000 in
theorem r4_Join.calls (k : Nat) (A0 : Option Addr) (c0 : Nat) (l0 : List ByteArray) (r : ByteArray) (w : World) (hr0 : Kd.C Kd.string w A0 l0.length l0) (hc0 : l0.length ≤ c0) (h : r4_Join.f k l0 = some r) :
  Calls Try.prog 21 #[.slice A0 l0.length c0] w fun e w' => e = .returned (.string r) ∧ Drawn0 w w' := by
 have ag := Aside0.mk hr0
 have au := Aside0.mk hc0
 clear hr0 hc0
 have H : (r4_Join.l0 k l0 (⟨#[]⟩ : ByteArray) 0) = some r := h
 clear h
 have H' := Aside0.mk H
 clear H
 go_enter Try.func21, Try.ntmps21
 go_wp2
 go_loopg [3, 4] k (fun kq v3 v4 w' => ∃ (ab : ByteArray) (aa : Int), v3 = .string ab ∧ v4 = .int .i64 aa ∧ Aside0 (r4_Join.l0 kq l0 ab aa = some r) ∧ Aside0 (kq ≤ k) ∧ Drawn0 w w')
 case atStart => exact ⟨((⟨#[]⟩ : ByteArray)), (0), Qs, Qs, H', ⟨Nat.le_refl _⟩, Q0⟩
 case round =>
  clear H'
  obtain ⟨ab, aa, rfl, rfl, HA, HK1, ⟨m1, rfl⟩⟩ := hrel
  cases gk with
  | zero => exact absurd HA.out (by simp [r4_Join.l0])
  | succ k1 =>
   have H := HA.out
   clear HA
   simp only [r4_Join.l0] at H
   by_cases c2 : aa < (l0.length : Int)
   ·rw [if_pos c2] at H
    have ac : decide (aa < (l0.length : Int)) = true := decide_eq_true c2
    clear c2
    by_cases c3 : aa > 0
    ·rw [if_pos c3] at H
     have ad : decide (0 < aa) = true := decide_eq_true c3
     clear c3
     by_cases c4 : ab.size + 1 ≤ 9223372036854775807
     ·rw [if_pos c4] at H
      have ah := eq_true c4
      have ai : decide (ab.size + 1 ≤ 9223372036854775807) = true := decide_eq_true c4
      try have aj : (9223372036854775807 < ab.size + 1) = False := eq_false (Nat.not_lt.2 c4)
      by_cases c5 : 0 ≤ aa
      ·rw [if_pos c5] at H
       have ak : decide (0 ≤ aa) = true := decide_eq_true c5
       clear c5
       by_cases c6 : (ab ++ (⟨#[45]⟩ : ByteArray)).size + (rdOf ByteArray.empty l0 aa).size ≤ 9223372036854775807
       ·rw [if_pos c6] at H
        have al := eq_true c6
        have am : decide ((ab ++ (⟨#[45]⟩ : ByteArray)).size + (rdOf ByteArray.empty l0 aa).size ≤ 9223372036854775807) = true := decide_eq_true c6
        try have ae : (9223372036854775807 < (ab ++ (⟨#[45]⟩ : ByteArray)).size + (rdOf ByteArray.empty l0 aa).size) = False := eq_false (Nat.not_lt.2 c6)
        (try (have af := ae; simp only [ByteArray.size_append, show (⟨#[45]⟩ : ByteArray).size = 1 from rfl] at af))
        have H' := Aside0.mk H
        clear H
        have p276 : 0 ≤ (aa : Int) := of_decide_eq_true Qa
        have q276 : aa < (l0.length : Int) := of_decide_eq_true Qa
        obtain ⟨ad276, e276, hx276_0⟩ := Kd.at_string ag.out aa p276 q276
        cases e276
        replace p276 := eq_true p276
        replace q276 := eq_true q276
        go_wp2
        go_roundg k1
        case measure => have := HK1.out; omega
        case rel => exact ⟨((ab ++ (⟨#[45]⟩ : ByteArray)) ++ (rdOf ByteArray.empty l0 aa)), (wrap64 (aa + 1)), Qs, Qs, H', ⟨by have := HK1.out; omega⟩, Q0⟩
       ·rw [if_neg c6] at H
        exact absurd H (by simp)
      ·rw [if_neg c5] at H
       exact absurd H (by simp)
     ·rw [if_neg c4] at H
      exact absurd H (by simp)
    ·rw [if_neg c3] at H
     have ad : decide (0 < aa) = false := decide_eq_false c3
     clear c3
     by_cases c7 : 0 ≤ aa
     ·rw [if_pos c7] at H
      have ao : decide (0 ≤ aa) = true := decide_eq_true c7
      clear c7
      by_cases c8 : ab.size + (rdOf ByteArray.empty l0 aa).size ≤ 9223372036854775807
      ·rw [if_pos c8] at H
       have ap := eq_true c8
       have aq : decide (ab.size + (rdOf ByteArray.empty l0 aa).size ≤ 9223372036854775807) = true := decide_eq_true c8
       try have ar : (9223372036854775807 < ab.size + (rdOf ByteArray.empty l0 aa).size) = False := eq_false (Nat.not_lt.2 c8)
       have H' := Aside0.mk H
       clear H
       have p277 : 0 ≤ (aa : Int) := of_decide_eq_true Qa
       have q277 : aa < (l0.length : Int) := of_decide_eq_true Qa
       obtain ⟨ad277, e277, hx277_0⟩ := Kd.at_string ag.out aa p277 q277
       cases e277
       replace p277 := eq_true p277
       replace q277 := eq_true q277
       go_wp2
       go_roundg k1
       case measure => have := HK1.out; omega
       case rel => exact ⟨(ab ++ (rdOf ByteArray.empty l0 aa)), (wrap64 (aa + 1)), Qs, Qs, H', ⟨by have := HK1.out; omega⟩, Q0⟩
      ·rw [if_neg c8] at H
       exact absurd H (by simp)
     ·rw [if_neg c7] at H
      exact absurd H (by simp)
   ·rw [if_neg c2] at H
    have ac : decide (aa < (l0.length : Int)) = false := decide_eq_false c2
    clear c2
    obtain rfl := Option.some.inj H
    go_wp2
    go_ret
    exact ⟨Qs, Q0⟩
end Go.Proofs.Ytojglflamecnkaa.P
