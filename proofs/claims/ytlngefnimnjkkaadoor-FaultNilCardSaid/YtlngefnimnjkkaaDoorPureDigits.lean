/- The document's Digits are strconv's. Condition: the number is an int64. -/
import Derived.Test.YtlngefnimnjkkaaDoorDigits
import Derived.Lib.ItoaNum
namespace Go.Proofs.YtlngefnimnjkkaaDoor.P
open Go Go.RowKit Go.Proofs.YtlngefnimnjkkaaDoorW.PrintWords
set_option linter.unusedVariables false
set_option linter.unusedSimpArgs false
def mkB (l : List UInt8) : ByteArray := ⟨l.toArray⟩
theorem mkB_app (a b : List UInt8) : mkB a ++ mkB b = mkB (a ++ b) := by
  apply ByteArray.ext; simp [mkB]
theorem mkB_list (a : List UInt8) : (mkB a).toList = a := by
  rw [Go.ByteArray.toList_eq]; rfl
theorem mkB_size (a : List UInt8) : (mkB a).size = a.length := by
  simp [mkB, ByteArray.size]
theorem ev_succ01 {α : Type} {g : Nat → Option α} {r : α} (h : Ev (fun k => g (k + 1)) r) : Ev g r := by
  obtain ⟨K, hK⟩ := h
  refine ⟨K + 1, fun k hk => ?_⟩
  obtain ⟨m, rfl⟩ : ∃ m, k = m + 1 := ⟨k - 1, by omega⟩
  exact hK m (by omega)
theorem nums1 (v : Int) (c : Nat) (hc : c < 256) (h : v = (c : Int)) : strOfNums [v] = mkB [UInt8.ofNat c] := by
  subst h
  apply ByteArray.ext
  simp [strOfNums, mkB]
def signed (x0 : Int) (l : List UInt8) : List UInt8 := if x0 < 0 then 45 :: l else l
theorem dec_small {u : Nat} (h : u < 10) : Lib.decDigits u = [UInt8.ofNat (48 + u)] := by rw [Lib.decDigits, dif_pos h]
theorem dec_big {u : Nat} (h : ¬ u < 10) : Lib.decDigits u = Lib.decDigits (u / 10) ++ [UInt8.ofNat (48 + u % 10)] := by rw [Lib.decDigits, dif_neg h]
theorem digits_end (x0 x4 : Int) (t : List UInt8) (h0 : x4 = 0) (hne : t ≠ []) (hl : t.length ≤ 1000) : Ev (fun k => isoglossref01_Digits.l0 k x0 (mkB t) x4) (mkB (signed x0 t)) := by
  subst h0
  refine ev_succ01 ?_
  have e : ((mkB t).toList == ([] : List UInt8)) = false := by rw [mkB_list]; exact beq_eq_false_iff_ne.2 hne
  simp only [isoglossref01_Digits.l0, ↓reduceIte, e]
  refine ev_succ01 ?_
  have e2 : 1 + (mkB t).size ≤ 9223372036854775807 := by rw [mkB_size]; omega
  simp only [isoglossref01_Digits.j1, Bool.false_eq_true, ↓reduceIte, e2]
  unfold signed
  by_cases c : x0 < 0
  · simp only [c, ↓reduceIte]
    exact Ev.now _
  · simp only [c, ↓reduceIte]
    exact Ev.now _
/-- One digit more. -/
theorem digits_step (x0 x4 : Int) (t : List UInt8) (r : ByteArray) (hb : x4.natAbs ≤ 9223372036854775808) (hm : x4 ≤ 9223372036854775807) (hl : t.length ≤ 1000)
    (h : Ev (fun k => isoglossref01_Digits.l0 k x0 (mkB (UInt8.ofNat (48 + x4.natAbs % 10) :: t)) (Int.tdiv x4 10)) r) : Ev (fun k => isoglossref01_Digits.j1 k x0 (mkB t) x4 true) r := by
  have h1 : (Int.tmod x4 10).natAbs = x4.natAbs % 10 := Int.natAbs_tmod x4 10
  have h2 : (Int.tdiv x4 10).natAbs = x4.natAbs / 10 := Int.natAbs_tdiv x4 10
  have hw : wrap64 (Int.tdiv x4 10) = Int.tdiv x4 10 := by unfold wrap64; omega
  have hs : ∀ y : ByteArray, y = mkB [UInt8.ofNat (48 + x4.natAbs % 10)] → (y.size + (mkB t).size ≤ 9223372036854775807) := fun y hy => by rw [hy, mkB_size, mkB_size]; simp; omega
  refine ev_succ01 ?_
  by_cases c : Int.tmod x4 10 < 0
  · have hn := nums1 (wrap64 (48 + (wrap64 (-(Int.tmod x4 10)))) % 256) (48 + x4.natAbs % 10) (by omega) (by unfold wrap64; omega)
    simp only [isoglossref01_Digits.j1, ↓reduceIte, c, Option.bind_some, hn, hs _ rfl, hw, mkB_app, List.cons_append, List.nil_append]
    exact h
  · have hn := nums1 (wrap64 (48 + (Int.tmod x4 10)) % 256) (48 + x4.natAbs % 10) (by omega) (by unfold wrap64; omega)
    simp only [isoglossref01_Digits.j1, ↓reduceIte, c, Option.bind_some, hn, hs _ rfl, hw, mkB_app, List.cons_append, List.nil_append]
    exact h
theorem digits_l0 (x0 : Int) : ∀ (n : Nat) (x4 : Int) (t : List UInt8), x4.natAbs < 10 ^ n → x4.natAbs ≤ 9223372036854775808 → x4 ≤ 9223372036854775807 → t ≠ [] ∨ x4 ≠ 0 → t.length + n ≤ 1000 →
    Ev (fun k => isoglossref01_Digits.l0 k x0 (mkB t) x4) (mkB (signed x0 (if x4 = 0 then t else Lib.decDigits x4.natAbs ++ t))) := by
  intro n
  induction n with
  | zero =>
    intro x4 t hu hb hm ht hl
    have h0 : x4 = 0 := by omega
    rw [if_pos h0]
    exact digits_end x0 x4 t h0 (by rcases ht with h | h; exact h; exact absurd h0 h) (by omega)
  | succ n ih =>
    intro x4 t hu hb hm ht hl
    by_cases h0 : x4 = 0
    · rw [if_pos h0]
      exact digits_end x0 x4 t h0 (by rcases ht with h | h; exact h; exact absurd h0 h) (by omega)
    · rw [if_neg h0]
      refine ev_succ01 ?_
      simp only [isoglossref01_Digits.l0, h0, ↓reduceIte]
      have h2 : (Int.tdiv x4 10).natAbs = x4.natAbs / 10 := Int.natAbs_tdiv x4 10
      refine digits_step x0 x4 t _ hb hm (by omega) ?_
      have := ih (Int.tdiv x4 10) (UInt8.ofNat (48 + x4.natAbs % 10) :: t) (by rw [h2]; rw [Nat.pow_succ] at hu; omega) (by omega) (by omega) (.inl (by simp)) (by rw [List.length_cons]; omega)
      rw [h2] at this
      by_cases hs : x4.natAbs < 10
      · have hz : Int.tdiv x4 10 = 0 := by omega
        rw [if_pos hz] at this
        rw [dec_small hs]
        rw [Nat.mod_eq_of_lt hs] at this ⊢
        exact this
      · have hz : ¬ Int.tdiv x4 10 = 0 := by omega
        rw [if_neg hz] at this
        rw [dec_big hs, List.append_assoc]
        exact this
theorem Digits_ev (n : Int) (h0 : -9223372036854775808 ≤ n) (h1 : n ≤ 9223372036854775807) : Ev (fun k => isoglossref01_Digits.f k n) (mkB (Lib.itoa n)) := by
  unfold isoglossref01_Digits.f
  by_cases hz : n = 0
  · subst hz
    refine ev_succ01 ?_
    have e : ((⟨#[]⟩ : ByteArray).toList == ([] : List UInt8)) = true := by decide +kernel
    simp only [isoglossref01_Digits.l0, ↓reduceIte, e]
    have hh : mkB (Lib.itoa 0) = mkB (signed 0 [UInt8.ofNat (48 + (0 : Int).natAbs % 10)]) := by
      unfold Lib.itoa
      rw [if_neg (by decide), dec_small (by decide)]
      rfl
    rw [hh]
    refine digits_step 0 0 [] _ (by decide) (by decide) (by decide) ?_
    exact digits_end 0 (Int.tdiv 0 10) [UInt8.ofNat (48 + (0 : Int).natAbs % 10)] (by decide) (by simp) (by simp)
  · have := digits_l0 n 20 n [] (by omega) (by omega) h1 (.inr hz) (by decide)
    rw [if_neg hz, List.append_nil] at this
    have e : signed n (Lib.decDigits n.natAbs) = Lib.itoa n := by
      unfold signed Lib.itoa
      by_cases c : n < 0
      · rw [if_pos c, if_pos c]
      · rw [if_neg c, if_neg c, show n.natAbs = n.toNat by omega]
    rw [e] at this
    exact this
end Go.Proofs.YtlngefnimnjkkaaDoor.P
