/- What the printed functions of ascii, tag, split, and of their references, come to, in plain words; conditions: texts are shorter than 2^47 bytes (2^42 where pieces are kept). -/
import Derived.Test.YtojglflamecnkaaPlain
import Derived.Test.YtojglflamecnkaaHand1
import Derived.Test.YtojglflamecnkaaPx11
import Derived.Test.YtojglflamecnkaaPx14
import Derived.Test.YtojglflamecnkaaPx4
import Derived.Test.YtojglflamecnkaaPx6
namespace Go.Proofs.Ytojglflamecnkaa.Iso
open Go Go.RowKit Go.Proofs.YtojglflamecnkaaW.PrintWords
theorem Ev.succ {α : Type} {g : Nat → Option α} {r : α} (h : Ev (fun k => g (k + 1)) r) : Ev g r := by
  obtain ⟨K, hK⟩ := h
  refine ⟨K + 1, fun k hk => ?_⟩
  obtain ⟨m, rfl⟩ : ∃ m, k = m + 1 := ⟨k - 1, by omega⟩
  exact hK m (by omega)
theorem Ev.val {α : Type} {g : Nat → Option α} {r s : α} (h : Ev g r) (e : r = s) : Ev g s := e ▸ h
theorem drop_at {s : ByteArray} {i : Nat} {c : UInt8} {t : Str} (h : (bl s).drop i = c :: t) : i < s.size ∧ bt s i = c.toNat ∧ (bl s).drop (i + 1) = t := by
  have hi : i < s.size := by
    rcases Nat.lt_or_ge i s.size with h1 | h1
    · exact h1
    · rw [List.drop_eq_nil_of_le (by rw [bl_len]; exact h1)] at h; cases h
  rw [List.drop_eq_getElem_cons (by rw [bl_len]; exact hi)] at h
  injection h with h1 h2
  refine ⟨hi, ?_, h2⟩
  unfold bt
  rw [dif_pos (by simpa using hi)]
  have : s[(i : Int).toNat]'(by simpa using hi) = c := by rw [← h1]; simp [bl]; rfl
  rw [this]
theorem drop_nil {s : ByteArray} {i : Nat} (h : (bl s).drop i = []) : s.size ≤ i := by
  have := List.drop_eq_nil_iff.1 h
  rwa [bl_len] at this
theorem wrap_lt {i n : Nat} (h : i < n) (hn : n ≤ 140737488355328) : wrap64 ((i : Int) + 1) = ((i + 1 : Nat) : Int) := by
  unfold wrap64
  omega
end Go.Proofs.Ytojglflamecnkaa.Iso
namespace Go.Proofs.Ytojglflamecnkaa.Iso
set_option linter.unusedSimpArgs false
set_option linter.unusedVariables false
open Go Go.RowKit Go.Proofs.YtojglflamecnkaaW.PrintWords Go.Proofs.Ytojglflamecnkaa.P
def kind (c : UInt8) : Int := if isAl c then 1 else if isDg c then 2 else 0
def alpha (s : Str) : Bool := decide (cls s = 1)
def digit (s : Str) : Bool := decide (cls s = 2)
def alnum (s : Str) : Bool := decide (cls s ≠ 0)
def isLang (s : Str) : Bool := alpha s && decide (2 ≤ s.length ∧ s.length ≤ 8)
def isExtl (s : Str) : Bool := alpha s && decide (s.length = 3)
def isScr (s : Str) : Bool := alpha s && decide (s.length = 4)
def isReg (s : Str) : Bool := alpha s && decide (s.length = 2) || digit s && decide (s.length = 3)
def isVar (s : Str) : Bool := alnum s && (decide (5 ≤ s.length ∧ s.length ≤ 8) || decide (s.length = 4) && digit (s.take 1))
def isSing (s : Str) : Bool := alnum s && decide (s.length = 1) && decide (low s ≠ [120])
def isSub (s : Str) : Bool := alnum s && decide (s.length ≤ 8)
theorem lowC_nat (c : UInt8) : (lowC c).toNat = if 65 ≤ c.toNat ∧ c.toNat ≤ 90 then c.toNat + 32 else c.toNat := by
  have := byte_all (fun c => decide ((lowC c).toNat = if 65 ≤ c.toNat ∧ c.toNat ≤ 90 then c.toNat + 32 else c.toNat)) (by decide +kernel) c
  exact of_decide_eq_true this
theorem upC_nat (c : UInt8) : (upC c).toNat = if 97 ≤ c.toNat ∧ c.toNat ≤ 122 then c.toNat - 32 else c.toNat := by
  have := byte_all (fun c => decide ((upC c).toNat = if 97 ≤ c.toNat ∧ c.toNat ≤ 122 then c.toNat - 32 else c.toNat)) (by decide +kernel) c
  exact of_decide_eq_true this
theorem ref_lower_eq (c : UInt8) : r2_lower.f (c.toNat : Int) = some ((lowC c).toNat : Int) := by
  have := c.toNat_lt
  unfold r2_lower.f
  rw [lowC_nat]
  by_cases h : 65 ≤ c.toNat ∧ c.toNat ≤ 90
  · rw [if_pos (by omega), if_pos (by omega), if_pos h]; congr 1; omega
  · rw [if_neg h]; split
    · rw [if_neg (by omega)]
    · rfl
theorem ref_upper_eq (c : UInt8) : r2_upper.f (c.toNat : Int) = some ((upC c).toNat : Int) := by
  have := c.toNat_lt
  unfold r2_upper.f
  rw [upC_nat]
  by_cases h : 97 ≤ c.toNat ∧ c.toNat ≤ 122
  · rw [if_pos (by omega), if_pos (by omega), if_pos h]; congr 1; omega
  · rw [if_neg h]; split
    · rw [if_neg (by omega)]
    · rfl
def cmpL : Str → Str → Int
  | [], [] => 0
  | [], _ :: _ => -1
  | _ :: _, [] => 1
  | c :: s, d :: t => if c.toNat < d.toNat then -1 else if c.toNat > d.toNat then 1 else cmpL s t
def same (s t : Str) : Bool := decide (low s = low t)
end Go.Proofs.Ytojglflamecnkaa.Iso
namespace Go.Proofs.Ytojglflamecnkaa.Iso
set_option linter.unusedSimpArgs false
set_option linter.unusedVariables false
open Go Go.RowKit Go.Proofs.YtojglflamecnkaaW.PrintWords Go.Proofs.Ytojglflamecnkaa.P
theorem ref_letter_eq (c : UInt8) : r2_letter.f (c.toNat : Int) = some (isAl c) := by
  unfold r2_letter.f isAl isLow isUp
  have := c.toNat_lt
  by_cases h1 : 97 ≤ c.toNat <;> by_cases h2 : c.toNat ≤ 122 <;> by_cases h3 : 65 ≤ c.toNat <;> by_cases h4 : c.toNat ≤ 90 <;>
    first
    | (exfalso; omega)
    | (repeat (first | rw [if_pos (by omega)] | rw [if_neg (by omega)])
       congr 1; simp [h1, h2, h3, h4] <;> omega)
theorem ref_digit_eq (c : UInt8) : r2_digit.f (c.toNat : Int) = some (isDg c) := by
  unfold r2_digit.f isDg
  by_cases h1 : 48 ≤ c.toNat <;> by_cases h2 : c.toNat ≤ 57 <;>
    (repeat (first | rw [if_pos (by omega)] | rw [if_neg (by omega)])
     congr 1; simp [h1, h2] <;> omega)
theorem al_dg (c : UInt8) : ¬ (isAl c = true ∧ isDg c = true) := by
  simp only [isAl, isUp, isLow, isDg, Bool.or_eq_true, Bool.and_eq_true, decide_eq_true_eq]; omega
def refFin (s : ByteArray) (a b : Nat) : Int := if bl s = [] ∨ a + b < s.size then 0 else if b = 0 then 1 else if a = 0 then 2 else 3
theorem ref_class_l0 (s : ByteArray) (hn : s.size ≤ 140737488355328) (t : Str) : ∀ (i a b : Nat), (bl s).drop i = t → i ≤ s.size → a + b ≤ i →
    Ev (fun k => r2_Class.l0 k s a b i) (refFin s (a + t.countP isAl) (b + t.countP isDg)) := by
  induction t with
  | nil =>
    intro i a b h hi hab
    have h1 := drop_nil h
    refine Ev.succ ?_
    simp only [r2_Class.l0, show ¬ ((i : Int) < (s.size : Int)) from by omega, ↓reduceIte, bl_toList, List.countP_nil, Nat.add_zero]
    have hw : wrap64 ((a : Int) + b) = ((a + b : Nat) : Int) := by unfold wrap64; omega
    have fin : ∀ p : Bool, (p = true ↔ (bl s = [] ∨ a + b < s.size)) → Ev (fun k => r2_Class.j1 k a b p) (refFin s a b) := by
      intro p hp
      refine Ev.succ ?_
      simp only [r2_Class.j1]
      unfold refFin
      by_cases hq : bl s = [] ∨ a + b < s.size
      · rw [if_pos hq]; simp only [hp.2 hq, ↓reduceIte]; exact Ev.now _
      · rw [if_neg hq]
        have : p = false := Bool.eq_false_iff.2 fun h => hq (hp.1 h)
        by_cases hb : b = 0
        · subst hb; simp only [this, Bool.false_eq_true, ↓reduceIte, show (((0 : Nat) : Int) = 0) from rfl]; exact Ev.now _
        · by_cases ha : a = 0
          · subst ha; simp only [this, Bool.false_eq_true, ↓reduceIte, show ¬ ((b : Int) = 0) from by omega, hb, show (((0 : Nat) : Int) = 0) from rfl]; exact Ev.now _
          · simp only [this, Bool.false_eq_true, ↓reduceIte, show ¬ ((b : Int) = 0) from by omega, show ¬ ((a : Int) = 0) from by omega, hb, ha]; exact Ev.now _
    by_cases he : bl s = []
    · simp only [he, ↓reduceIte]; exact fin true (by simp [he])
    · simp only [he, ↓reduceIte, hw]
      refine fin _ ?_
      simp only [decide_eq_true_eq, he, false_or]; omega
  | cons c t ih =>
    intro i a b h hi hab
    obtain ⟨h1, h2, h3⟩ := drop_at h
    refine Ev.succ ?_
    simp only [r2_Class.l0, show ((i : Int) < (s.size : Int)) from by omega, show (0 : Int) ≤ (i : Int) from by omega, h2, wrap_lt h1 hn, ↓reduceIte, ref_letter_eq, ref_digit_eq, Option.bind_some]
    have wa : wrap64 ((a : Int) + 1) = ((a + 1 : Nat) : Int) := by unfold wrap64; omega
    have wb : wrap64 ((b : Int) + 1) = ((b + 1 : Nat) : Int) := by unfold wrap64; omega
    have := al_dg c
    cases ha : isAl c <;> cases hb : isDg c
    · have := ih (i + 1) a b h3 (by omega) (by omega)
      simpa [List.countP_cons, ha, hb] using this
    · have := ih (i + 1) a (b + 1) h3 (by omega) (by omega)
      simp only [List.countP_cons, ha, hb, ↓reduceIte, wb, Bool.false_eq_true, Nat.add_zero]
      rw [show b + (List.countP isDg t + 1) = b + 1 + List.countP isDg t from by omega]; exact this
    · have := ih (i + 1) (a + 1) b h3 (by omega) (by omega)
      simp only [List.countP_cons, ha, hb, ↓reduceIte, wa, Bool.false_eq_true, Nat.add_zero]
      rw [show a + (List.countP isAl t + 1) = a + 1 + List.countP isAl t from by omega]; exact this
    · exact absurd ⟨ha, hb⟩ this
theorem count_two (t : Str) : t.countP isAl + t.countP isDg ≤ t.length ∧ (t.all isAlnum = true ↔ t.countP isAl + t.countP isDg = t.length) ∧ (t.all isAl = true ↔ t.countP isAl = t.length) ∧ (t.all isDg = true ↔ t.countP isDg = t.length) := by
  induction t with
  | nil => simp
  | cons c t ih =>
    obtain ⟨h0, h1, h2, h3⟩ := ih
    have := al_dg c
    have l1 := List.countP_le_length (p := isAl) (l := t)
    have l2 := List.countP_le_length (p := isDg) (l := t)
    simp only [List.all_cons, List.countP_cons, List.length_cons, isAlnum, Bool.and_eq_true, Bool.or_eq_true] at *
    cases ha : isAl c <;> cases hb : isDg c <;> simp only [ha, hb, Bool.false_eq_true, ↓reduceIte, or_self, or_true, true_or, false_and, true_and, false_iff, not_false_eq_true, and_true, true_and] at * <;>
      first
      | (refine ⟨by omega, by omega, by omega, by omega⟩)
      | (refine ⟨by omega, ?_, ?_, ?_⟩ <;> first | omega | (rw [h1]; omega) | (rw [h2]; omega) | (rw [h3]; omega))
      | (exact absurd trivial this)
theorem ref_Class_ev (s : ByteArray) (hn : s.size ≤ 140737488355328) : Ev (fun k => r2_Class.f k s) (cls (bl s) : Int) := by
  have h := ref_class_l0 s hn (bl s) 0 0 0 rfl (by omega) (by omega)
  refine Ev.val h ?_
  rw [Nat.zero_add, Nat.zero_add]
  unfold refFin cls
  obtain ⟨h0, h1, h2, h3⟩ := count_two (bl s)
  rw [bl_len] at h0 h1 h2 h3
  by_cases he : bl s = []
  · rw [if_pos (.inl he), if_pos he]; rfl
  · rw [if_neg he]
    by_cases ha : (bl s).all isAlnum = true
    · rw [if_pos ha]
      have := h1.1 ha
      rw [if_neg (by simp only [he, false_or]; omega)]
      by_cases hb : (bl s).all isAl = true
      · rw [if_pos hb]; have := h2.1 hb; rw [if_pos (by omega)]; rfl
      · rw [if_neg hb]; have := mt h2.2 hb; rw [if_neg (by omega)]
        by_cases hc : (bl s).all isDg = true
        · rw [if_pos hc]; have := h3.1 hc; rw [if_pos (by omega)]; rfl
        · rw [if_neg hc]; have := mt h3.2 hc; rw [if_neg (by omega)]; rfl
    · rw [if_neg ha]; have := mt h1.2 ha; rw [if_pos (.inr (by omega))]; rfl
theorem ref_letters_ev (s : ByteArray) (hn : s.size ≤ 140737488355328) (a b : Nat) : Ev (fun k => r6_letters.f k s a b) (alpha (bl s) && decide (a ≤ (bl s).length ∧ (bl s).length ≤ b)) := by
  refine Ev.bind (ref_Class_ev s hn) ?_
  unfold alpha
  by_cases h : cls (bl s) = 1
  · simp only [h, show (((1 : Nat) : Int) = 1) from rfl, ↓reduceIte, decide_true, Bool.true_and, bl_len]
    by_cases h2 : (s.size : Int) ≥ a
    · simp only [h2, ↓reduceIte]
      refine Ev.val (Ev.now _) ?_
      congr 1; apply propext; omega
    · simp only [h2, ↓reduceIte]
      refine Ev.val (Ev.now _) ?_
      symm; rw [decide_eq_false_iff_not]; omega
  · have h' : ¬ ((cls (bl s) : Int) = 1) := by omega
    simp only [h, h', ↓reduceIte, decide_false, Bool.false_and]; exact Ev.now _
theorem ref_Language_ev (s : ByteArray) (hn : s.size ≤ 140737488355328) : Ev (fun k => r6_Language.f k s) (isLang (bl s)) :=
  Ev.bind (ref_letters_ev s hn 2 8) (Ev.now _)
theorem ref_Script_ev (s : ByteArray) (hn : s.size ≤ 140737488355328) : Ev (fun k => r6_Script.f k s) (isScr (bl s)) :=
  Ev.bind (ref_letters_ev s hn 4 4) (Ev.val (Ev.now _) (by unfold isScr; congr 2; apply propext; omega))
theorem ref_Region_ev (s : ByteArray) (hn : s.size ≤ 140737488355328) : Ev (fun k => r6_Region.f k s) (isReg (bl s)) := by
  refine Ev.bind (ref_letters_ev s hn 2 2) ?_
  have e : (alpha (bl s) && decide (2 ≤ (bl s).length ∧ (bl s).length ≤ 2)) = (alpha (bl s) && decide ((bl s).length = 2)) := by congr 2; apply propext; omega
  rw [e]
  unfold isReg
  cases alpha (bl s) && decide ((bl s).length = 2)
  · simp only [Bool.false_eq_true, ↓reduceIte, Bool.false_or, bl_len]
    by_cases h : s.size = 3
    · simp only [h, show (((3 : Nat) : Int) = 3) from rfl, ↓reduceIte, decide_true, Bool.and_true]
      refine Ev.bind (ref_Class_ev s hn) ?_
      refine Ev.val (Ev.now _) ?_
      unfold digit; by_cases h : cls (bl s) = 2 <;> simp [h]; omega
    · have h' : ¬ ((s.size : Int) = 3) := by omega
      simp only [h', h, ↓reduceIte, decide_false, Bool.and_false]; exact Ev.now _
  · exact Ev.now _
theorem take_one {s : Str} {c : UInt8} {t : Str} (h : s = c :: t) : digit (s.take 1) = isDg c := by
  subst h
  unfold digit cls
  have := al_dg c
  simp only [List.take_succ_cons, List.take_zero, List.all_cons, List.all_nil, Bool.and_true, isAlnum]
  cases ha : isAl c <;> cases hb : isDg c <;> simp [ha, hb] at * 
theorem ref_Variant_ev (s : ByteArray) (hn : s.size ≤ 140737488355328) : Ev (fun k => r6_Variant.f k s) (isVar (bl s)) := by
  refine Ev.bind (ref_Class_ev s hn) ?_
  unfold isVar alnum
  by_cases h : cls (bl s) = 0
  · simp only [h, show (((0 : Nat) : Int) = 0) from rfl, ↓reduceIte]; exact Ev.now _
  · have h' : ¬ ((cls (bl s) : Int) = 0) := by omega
    simp only [h, h', ↓reduceIte, ne_eq, not_false_eq_true, decide_true, Bool.true_and, bl_len]
    by_cases h4 : s.size = 4
    · obtain ⟨c, t, hc⟩ : ∃ c t, bl s = c :: t := by
        cases e : bl s with
        | nil => have := bl_len s; rw [e] at this; simp at this; omega
        | cons c t => exact ⟨c, t, rfl⟩
      have hb := (drop_at (s := s) (i := 0) (c := c) (t := t) hc).2.1
      rw [take_one hc]
      unfold isDg
      simp only [h4, show ¬ (((4 : Nat) : Int) ≥ 5) from by omega, show (((4 : Nat) : Int) = 4) from rfl, show (0 : Int) < ((4 : Nat) : Int) from by omega, ↓reduceIte, show bt s 0 = c.toNat from hb]
      by_cases h5 : (c.toNat : Int) ≥ 48
      · simp only [h5, ↓reduceIte]
        refine Ev.val (Ev.now _) ?_
        have : 48 ≤ c.toNat := by omega
        simp [this]; omega
      · simp only [h5, ↓reduceIte]
        refine Ev.val (Ev.now _) ?_
        have : ¬ 48 ≤ c.toNat := by omega
        simp [this]
    · have h4' : ¬ ((s.size : Int) = 4) := by omega
      simp only [h4, h4', ↓reduceIte, decide_false, Bool.false_and, Bool.or_false]
      by_cases h5 : (s.size : Int) ≥ 5
      · by_cases h8 : (s.size : Int) ≤ 8
        · simp only [h5, h8, ↓reduceIte]; refine Ev.val (Ev.now _) ?_; symm; rw [decide_eq_true_eq]; omega
        · simp only [h5, h8, ↓reduceIte]; refine Ev.val (Ev.now _) ?_; symm; rw [decide_eq_false_iff_not]; omega
      · simp only [h5, ↓reduceIte]; refine Ev.val (Ev.now _) ?_; symm; rw [decide_eq_false_iff_not]; omega
theorem low_x (s : Str) : low s = [120] ↔ (s = [120] ∨ s = [88]) := by
  match s with
  | [] => simp [low]
  | [c] =>
    have := byte_all (fun c => decide (lowC c = 120 ↔ (c = 120 ∨ c = 88))) (by decide +kernel) c
    simpa [low] using of_decide_eq_true this
  | _ :: _ :: _ => simp [low]
theorem ref_Singleton_ev (s : ByteArray) (hn : s.size ≤ 140737488355328) : Ev (fun k => r6_Singleton.f k s) (isSing (bl s)) := by
  unfold r6_Singleton.f isSing alnum
  simp only [bl_len, bl_toList]
  by_cases h1 : s.size = 1
  · simp only [h1, show (((1 : Nat) : Int) = 1) from rfl, ↓reduceIte, decide_true, Bool.and_true]
    refine Ev.bind (ref_Class_ev s hn) ?_
    by_cases h : cls (bl s) = 0
    · simp only [h, show ¬ (((0 : Nat) : Int) > 0) from by omega, ↓reduceIte]; exact Ev.now _
    · have h' : ((cls (bl s) : Int) > 0) := by omega
      simp only [h, h', ↓reduceIte, ne_eq, not_false_eq_true, decide_true, Bool.true_and]
      by_cases hx : bl s = [120]
      · simp only [hx, ↓reduceIte]; exact Ev.now _
      · simp only [hx, ↓reduceIte]
        refine Ev.val (Ev.now _) ?_
        by_cases hX : bl s = [88]
        · rw [hX]; decide
        · have : ¬ low (bl s) = [120] := fun h => by rcases (low_x _).1 h with h | h <;> contradiction
          simp [hX, this]
  · have h1' : ¬ ((s.size : Int) = 1) := by omega
    simp only [h1, h1', ↓reduceIte, decide_false, Bool.and_false, Bool.false_and]; exact Ev.now _
theorem strOf (l : Str) : strOfNums (l.map fun c => (c.toNat : Int)) = mk l := by
  unfold strOfNums mk
  congr 2
  rw [List.map_map]
  conv => rhs; rw [← List.map_id l]
  refine List.map_congr_left fun c _ => ?_
  simp
theorem ref_lower_l0 (s : ByteArray) (hn : s.size ≤ 140737488355328) (t : Str) : ∀ (i : Nat) (a : Str), (bl s).drop i = t → a.length = i → i ≤ s.size →
    Ev (fun k => r2_Lower.l0 k s (a.map fun c => (c.toNat : Int)) i) (mk (a ++ low t)) := by
  induction t with
  | nil =>
    intro i a h ha hi
    have h1 := drop_nil h
    refine Ev.succ ?_
    simp only [r2_Lower.l0, show ¬ ((i : Int) < (s.size : Int)) from by omega, ↓reduceIte, strOf]
    simp only [low, List.map_nil, List.append_nil]
    exact Ev.now _
  | cons c t ih =>
    intro i a h ha hi
    obtain ⟨h1, h2, h3⟩ := drop_at h
    refine Ev.succ ?_
    have hl : ((a.map fun c => (c.toNat : Int)).length < 140737488355328) := by rw [List.length_map]; omega
    simp only [r2_Lower.l0, show ((i : Int) < (s.size : Int)) from by omega, show (0 : Int) ≤ (i : Int) from by omega, h2, wrap_lt h1 hn, ↓reduceIte, ref_lower_eq, Option.bind_some, hl]
    have := ih (i + 1) (a ++ [lowC c]) h3 (by simp [ha]) (by omega)
    simpa [low, List.map_append] using this
theorem ref_Lower_ev (s : ByteArray) (hn : s.size ≤ 140737488355328) : Ev (fun k => r2_Lower.f k s) (mk (low (bl s))) := by
  have := ref_lower_l0 s hn (bl s) 0 [] rfl rfl (by omega)
  rw [List.nil_append] at this
  exact this
theorem ref_upper_l0 (s : ByteArray) (hn : s.size ≤ 140737488355328) (t : Str) : ∀ (i : Nat) (a : Str), (bl s).drop i = t → a.length = i → i ≤ s.size →
    Ev (fun k => r2_Upper.l0 k s (a.map fun c => (c.toNat : Int)) i) (mk (a ++ up t)) := by
  induction t with
  | nil =>
    intro i a h ha hi
    have h1 := drop_nil h
    refine Ev.succ ?_
    simp only [r2_Upper.l0, show ¬ ((i : Int) < (s.size : Int)) from by omega, ↓reduceIte, strOf]
    simp only [up, List.map_nil, List.append_nil]
    exact Ev.now _
  | cons c t ih =>
    intro i a h ha hi
    obtain ⟨h1, h2, h3⟩ := drop_at h
    refine Ev.succ ?_
    have hl : ((a.map fun c => (c.toNat : Int)).length < 140737488355328) := by rw [List.length_map]; omega
    simp only [r2_Upper.l0, show ((i : Int) < (s.size : Int)) from by omega, show (0 : Int) ≤ (i : Int) from by omega, h2, wrap_lt h1 hn, ↓reduceIte, ref_upper_eq, Option.bind_some, hl]
    have := ih (i + 1) (a ++ [upC c]) h3 (by simp [ha]) (by omega)
    simpa [up, List.map_append] using this
theorem ref_Upper_ev (s : ByteArray) (hn : s.size ≤ 140737488355328) : Ev (fun k => r2_Upper.f k s) (mk (up (bl s))) := by
  have := ref_upper_l0 s hn (bl s) 0 [] rfl rfl (by omega)
  rw [List.nil_append] at this
  exact this
end Go.Proofs.Ytojglflamecnkaa.Iso
namespace Go.Proofs.Ytojglflamecnkaa.Iso
set_option linter.unusedSimpArgs false
set_option linter.unusedVariables false
open Go Go.RowKit Go.Proofs.YtojglflamecnkaaW.PrintWords Go.Proofs.Ytojglflamecnkaa.P
theorem ref_Sub_ev (s : ByteArray) (hn : s.size ≤ 140737488355328) : Ev (fun k => r4_Sub.f k s) (isSub (bl s)) := by
  unfold r4_Sub.f isSub alnum
  simp only [bl_len]
  by_cases h8 : (s.size : Int) ≤ 8
  · simp only [h8, ↓reduceIte, decide_eq_true (show s.size ≤ 8 from by omega), Bool.and_true]
    refine Ev.bind (ref_Class_ev s hn) ?_
    refine Ev.val (Ev.now _) ?_
    congr 1; apply propext; omega
  · simp only [h8, ↓reduceIte, decide_eq_false (show ¬ s.size ≤ 8 from by omega), Bool.and_false]
    exact Ev.now _
def sp (acc : Str) : Str → List Str
  | [] => [acc]
  | c :: t => if c = 45 then acc :: sp [] t else sp (acc ++ [c]) t
theorem eachGo_sp : ∀ (s : Str) (a : Nat) (acc : Str), (eachGo a acc s).map (·.2) = sp acc s
  | [], _, _ => rfl
  | c :: t, a, acc => by
    unfold eachGo sp
    by_cases h : c = 45
    · rw [if_pos h, if_pos h, List.map_cons, eachGo_sp]
    · rw [if_neg h, if_neg h, eachGo_sp]
theorem split_sp (s : Str) : split s = sp [] s := eachGo_sp s 0 []
theorem sp_ne (s acc : Str) : sp acc s ≠ [] := by
  induction s generalizing acc with
  | nil => simp [sp]
  | cons c t ih => unfold sp; split; simp; exact ih _
theorem sp_append (s t acc : Str) : sp acc (s ++ 45 :: t) = sp acc s ++ sp [] t := by
  induction s generalizing acc with
  | nil => simp [sp]
  | cons c s ih =>
    rw [List.cons_append]
    by_cases h : c = 45
    · rw [sp, sp, if_pos h, if_pos h, ih]; rfl
    · rw [sp, sp, if_neg h, if_neg h, ih]
def noDash (p : Str) : Prop := ∀ c ∈ p, c ≠ 45
theorem sp_noDash (p acc : Str) (h : noDash p) : sp acc p = [acc ++ p] := by
  induction p generalizing acc with
  | nil => simp [sp]
  | cons c p ih =>
    unfold sp
    rw [if_neg (h c List.mem_cons_self), ih _ fun d hd => h d (List.mem_cons_of_mem _ hd)]
    simp
theorem split_append (s t : Str) : split (s ++ 45 :: t) = split s ++ split t := by
  rw [split_sp, split_sp, split_sp, sp_append]
def tailJ : List Str → Str
  | [] => []
  | p :: t => 45 :: (p ++ tailJ t)
def joinL : List Str → Str
  | [] => []
  | p :: t => p ++ tailJ t
theorem tailJ_append (a b : List Str) : tailJ (a ++ b) = tailJ a ++ tailJ b := by
  induction a with
  | nil => rfl
  | cons p a ih => simp [tailJ, ih]
theorem joinL_append (a b : List Str) (h : a ≠ []) : joinL (a ++ b) = joinL a ++ tailJ b := by
  cases a with
  | nil => exact absurd rfl h
  | cons p a => simp [joinL, tailJ_append]
theorem sp_join (s acc : Str) : joinL (sp acc s) = acc ++ s := by
  induction s generalizing acc with
  | nil => simp [sp, joinL, tailJ]
  | cons c s ih =>
    unfold sp
    by_cases h : c = 45
    · rw [if_pos h]
      have := ih []
      cases hs : sp [] s with
      | nil => exact absurd hs (sp_ne _ _)
      | cons p t =>
        rw [hs] at this
        simp only [joinL, List.nil_append] at this
        simp only [joinL, tailJ]
        rw [this, h]
    · rw [if_neg h, ih]; simp
theorem join_split (s : Str) : joinL (split s) = s := by rw [split_sp, sp_join, List.nil_append]
theorem split_joinL : ∀ (ps : List Str), ps ≠ [] → (∀ p ∈ ps, noDash p) → split (joinL ps) = ps
  | [], h, _ => absurd rfl h
  | [p], _, h => by
    rw [split_sp]
    simp only [joinL, tailJ, List.append_nil]
    rw [sp_noDash p [] (h p List.mem_cons_self), List.nil_append]
  | p :: q :: t, _, h => by
    have e : joinL (p :: q :: t) = p ++ 45 :: joinL (q :: t) := by simp [joinL, tailJ]
    rw [e, split_append, split_joinL (q :: t) (by simp) fun x hx => h x (List.mem_cons_of_mem _ hx)]
    rw [split_sp, sp_noDash p [] (h p List.mem_cons_self)]
    rfl
theorem sp_map (f : UInt8 → UInt8) (hf : ∀ c, f c = 45 ↔ c = 45) (s acc : Str) : sp (acc.map f) (s.map f) = (sp acc s).map (List.map f) := by
  induction s generalizing acc with
  | nil => simp [sp]
  | cons c s ih =>
    rw [List.map_cons]
    unfold sp
    by_cases h : c = 45
    · rw [if_pos h, if_pos ((hf c).2 h), List.map_cons, ← ih]; rfl
    · rw [if_neg h, if_neg (fun h2 => h ((hf c).1 h2)), ← ih]; simp
theorem lowC_dash (c : UInt8) : lowC c = 45 ↔ c = 45 := of_decide_eq_true (byte_all (fun c => decide (lowC c = 45 ↔ c = 45)) (by decide +kernel) c)
theorem split_low (s : Str) : split (low s) = (split s).map low := by
  rw [split_sp, split_sp]; exact sp_map lowC lowC_dash s []
theorem up_low (s : Str) : low (up s) = low s := by
  unfold low up
  rw [List.map_map]
  refine List.map_congr_left fun c _ => ?_
  exact of_decide_eq_true (byte_all (fun c => decide (lowC (upC c) = lowC c)) (by decide +kernel) c)
theorem isAl_low (c : UInt8) : isAl (lowC c) = isAl c := of_decide_eq_true (byte_all (fun c => decide (isAl (lowC c) = isAl c)) (by decide +kernel) c)
theorem isDg_low (c : UInt8) : isDg (lowC c) = isDg c := of_decide_eq_true (byte_all (fun c => decide (isDg (lowC c) = isDg c)) (by decide +kernel) c)
theorem cls_map (f : UInt8 → UInt8) (ha : ∀ c, isAl (f c) = isAl c) (hd : ∀ c, isDg (f c) = isDg c) (s : Str) : cls (s.map f) = cls s := by
  unfold cls
  have e1 : (s.map f).all isAlnum = s.all isAlnum := by rw [List.all_map]; congr 1; funext c; simp [isAlnum, ha, hd]
  have e2 : (s.map f).all isAl = s.all isAl := by rw [List.all_map]; congr 1; funext c; simp [ha]
  have e3 : (s.map f).all isDg = s.all isDg := by rw [List.all_map]; congr 1; funext c; simp [hd]
  simp only [List.map_eq_nil_iff, e1, e2, e3]
theorem cls_low (s : Str) : cls (low s) = cls s := cls_map lowC isAl_low isDg_low s
theorem low_length (s : Str) : (low s).length = s.length := List.length_map _
theorem up_length (s : Str) : (up s).length = s.length := List.length_map _
theorem ref_each_l0 (s : ByteArray) (hn : s.size ≤ 4398046511104) (t : Str) : ∀ (i a : Nat) (L : List S58), (bl s).drop i = t → a ≤ i → i ≤ s.size → L.length ≤ i →
    Ev (fun k => r4_Each.l0 k s L a i) (L ++ (eachGo a (((bl s).drop a).take (i - a)) t).map fun p => (⟨(p.1 : Int), mk p.2⟩ : S58)) := by
  have hx : ∀ a i : Nat, s.extract a i = mk (((bl s).drop a).take (i - a)) := fun a i => by rw [← mk_bl (s.extract a i), bl_extract]
  induction t with
  | nil =>
    intro i a L h h1 h2 h3
    have g := drop_nil h
    obtain rfl : i = s.size := by omega
    refine Ev.succ (Ev.succ ?_)
    simp only [r4_Each.l0, show ((s.size : Int) ≤ (s.size : Int)) from by omega, show (0 : Int) ≤ (a : Int) from by omega, show ((a : Int) ≤ (s.size : Int)) from by omega, show L.length < 5864062014805 from by omega, wrap_lt (Nat.lt_succ_self s.size) (by omega), show ¬ (((s.size + 1 : Nat) : Int) ≤ (s.size : Int)) from by omega, ↓reduceIte, Int.toNat_natCast]
    rw [hx]
    simp only [eachGo, List.map_cons, List.map_nil]
    exact Ev.now _
  | cons c t ih =>
    intro i a L h h1 h2 h3
    obtain ⟨g1, g2, g3⟩ := drop_at h
    refine Ev.succ ?_
    simp only [r4_Each.l0, show ((i : Int) ≤ (s.size : Int)) from by omega, show ¬ ((i : Int) = (s.size : Int)) from by omega, show (0 : Int) ≤ (i : Int) from by omega, show ((i : Int) < (s.size : Int)) from by omega, g2, show (0 : Int) ≤ (a : Int) from by omega, show ((a : Int) ≤ (i : Int)) from by omega, show L.length < 5864062014805 from by omega, wrap_lt g1 (by omega), ↓reduceIte, Int.toNat_natCast]
    have hlen : (((bl s).drop a).take (i - a)).length = i - a := by rw [List.length_take, List.length_drop, bl_len]; omega
    unfold eachGo
    by_cases hc : c = 45
    · subst hc
      simp only [show (((45 : UInt8).toNat : Int) = 45) from rfl, ↓reduceIte]
      have := ih (i + 1) (i + 1) (L ++ [⟨(a : Int), s.extract a i⟩]) g3 (by omega) (by omega) (by simp; omega)
      rw [Nat.sub_self, List.take_zero] at this
      rw [hlen, show a + (i - a) + 1 = i + 1 from by omega, List.map_cons, ← hx]
      simpa using this
    · have hc' : ¬ ((c.toNat : Int) = 45) := fun h => hc (UInt8.toNat_inj.1 (by have : (45 : UInt8).toNat = 45 := rfl; omega))
      simp only [hc', hc, ↓reduceIte]
      have := ih (i + 1) a L g3 (by omega) (by omega) (by omega)
      have e : ((bl s).drop a).take (i + 1 - a) = ((bl s).drop a).take (i - a) ++ [c] := by
        rw [show i + 1 - a = (i - a) + 1 from by omega, List.take_add_one, List.getElem?_drop, show a + (i - a) = i from by omega]
        congr 1
        have h9 : (bl s)[i]? = some c := by
          have := congrArg (·[0]?) h
          simpa using this
        rw [h9]; rfl
      rw [e] at this
      exact this
theorem ref_Each_ev (s : ByteArray) (hn : s.size ≤ 4398046511104) : Ev (fun k => r4_Each.f k s) ((each (bl s)).map fun p => (⟨(p.1 : Int), mk p.2⟩ : S58)) := by
  have := ref_each_l0 s hn (bl s) 0 0 [] rfl (by omega) (by omega) (by simp)
  rw [List.nil_append] at this
  exact this
theorem ref_split_l0 (P : List S58) (hn : P.length ≤ 4398046511105) (t : List S58) : ∀ (i : Nat) (L : List ByteArray), P.drop i = t → L.length = i → i ≤ P.length →
    Ev (fun k => r4_Split.l0 k L P i) (L ++ t.map (·.f1)) := by
  induction t with
  | nil =>
    intro i L h h1 h2
    have g := List.drop_eq_nil_iff.1 h
    refine Ev.succ ?_
    simp only [r4_Split.l0, show ¬ ((i : Int) < (P.length : Int)) from by omega, ↓reduceIte, List.map_nil, List.append_nil]
    exact Ev.now _
  | cons p t ih =>
    intro i L h h1 h2
    have hl := congrArg List.length h
    rw [List.length_drop, List.length_cons] at hl
    have hp : P[i]? = some p := by
      have := congrArg (·[0]?) h
      simpa using this
    have hg : rd_T58 P (i : Int) = p := by
      unfold rd_T58
      rw [Int.toNat_natCast, List.getD_eq_getElem?_getD, hp]; rfl
    have hd : P.drop (i + 1) = t := by
      rw [← List.drop_drop, h]; rfl
    refine Ev.succ ?_
    simp only [r4_Split.l0, show ((i : Int) < (P.length : Int)) from by omega, show (0 : Int) ≤ (i : Int) from by omega, show L.length < 8796093022208 from by omega, hg, wrap_lt (show i < P.length from by omega) (by omega), ↓reduceIte]
    have := ih (i + 1) (L ++ [p.f1]) hd (by simp [h1]) (by omega)
    simpa using this
theorem ref_Split_ev (s : ByteArray) (hn : s.size ≤ 4398046511104) : Ev (fun k => r4_Split.f k s) ((split (bl s)).map mk) := by
  refine Ev.bind (ref_Each_ev s hn) ?_
  have hl := eachGo_length (bl s) 0 []
  rw [bl_len] at hl
  have := ref_split_l0 ((each (bl s)).map fun p => (⟨(p.1 : Int), mk p.2⟩ : S58)) (by rw [List.length_map]; unfold each; omega) _ 0 [] rfl rfl (by omega)
  rw [List.nil_append, List.drop_zero, List.map_map] at this
  rw [split, List.map_map]
  exact this
theorem split_Split_eq (s : ByteArray) (hn : s.size < 8796093022207) : split_Split.f s = some ((split (bl s)).map mk) := by
  unfold split_Split.f
  rw [if_pos hn, split, List.map_map]
  unfold eachB
  rw [List.map_map]; rfl
theorem split_length (s : Str) : (split s).length ≤ s.length + 1 := by
  rw [split, List.length_map]; exact eachGo_length s 0 []
theorem getMk (ps : List Str) (i : Nat) (p : Str) (h : ps[i]? = some p) : rdOf ByteArray.empty (ps.map mk) (i : Int) = mk p := by
  unfold rdOf
  rw [Int.toNat_natCast, List.getD_eq_getElem?_getD, List.getElem?_map, h]; rfl
theorem mk_append (a b : Str) : mk a ++ mk b = mk (a ++ b) := by
  refine bl_inj ?_
  show (mk a ++ mk b).data.toList = _
  rw [ByteArray.data_append, Array.toList_append]; rfl
theorem joinL_len_take (ps : List Str) (i : Nat) : (joinL (ps.take i)).length ≤ (joinL ps).length := by
  cases i with
  | zero => simp [joinL]
  | succ i =>
    cases ps with
    | nil => simp
    | cons p t =>
      conv => rhs; rw [← List.take_append_drop (i + 1) (p :: t), joinL_append _ _ (by simp)]
      simp
theorem ref_join_l0 (ps : List Str) (hn : ps.length ≤ 140737488355328) (hs : (joinL ps).length ≤ 140737488355328) (t : List Str) : ∀ (i : Nat), ps.drop i = t → i ≤ ps.length →
    Ev (fun k => r4_Join.l0 k (ps.map mk) (mk (joinL (ps.take i))) i) (mk (joinL ps)) := by
  induction t with
  | nil =>
    intro i h h2
    have g := List.drop_eq_nil_iff.1 h
    refine Ev.succ ?_
    simp only [r4_Join.l0, List.length_map, show ¬ ((i : Int) < (ps.length : Int)) from by omega, ↓reduceIte, List.take_of_length_le g]
    exact Ev.now _
  | cons p t ih =>
    intro i h h2
    have hl := congrArg List.length h
    rw [List.length_drop, List.length_cons] at hl
    have hp : ps[i]? = some p := by
      have := congrArg (·[0]?) h
      simpa using this
    have hd : ps.drop (i + 1) = t := by
      rw [← List.drop_drop, h]; rfl
    have ht : ps.take (i + 1) = ps.take i ++ [p] := by rw [List.take_add_one, hp]; rfl
    have h5 := joinL_len_take ps i
    have h6 := joinL_len_take ps (i + 1)
    refine Ev.succ ?_
    have hrec := ih (i + 1) hd (by omega)
    have hg := getMk ps i p hp
    by_cases h0 : i = 0
    · subst h0
      have e : joinL (ps.take 1) = p := by rw [show (1 : Nat) = 0 + 1 from rfl, ht]; simp [joinL, tailJ]
      have e0 : mk (joinL (ps.take 0)) ++ mk p = mk (joinL (ps.take (0 + 1))) := by rw [mk_append, e]; simp [joinL]
      have hsz : (mk (joinL (ps.take 0))).size + (mk p).size ≤ 9223372036854775807 := by
        rw [mk_size, mk_size]; rw [show (0 : Nat) + 1 = 1 from rfl, e] at h6; simp only [List.take_zero, joinL, List.length_nil]; omega
      simp only [r4_Join.l0, List.length_map, show ((((0 : Nat) : Int)) < (ps.length : Int)) from by omega, show ¬ (((0 : Nat) : Int) > 0) from by omega, show (0 : Int) ≤ ((0 : Nat) : Int) from by omega, hg, hsz, ↓reduceIte, e0, wrap_lt (show 0 < ps.length from by omega) hn]
      exact hrec
    · have hne : ps.take i ≠ [] := fun hh => by have := congrArg List.length hh; rw [List.length_take, List.length_nil] at this; omega
      have e : joinL (ps.take (i + 1)) = joinL (ps.take i) ++ 45 :: p := by rw [ht, joinL_append _ _ hne]; simp [tailJ]
      have e1 : mk (joinL (ps.take i)) ++ (⟨#[45]⟩ : ByteArray) = mk (joinL (ps.take i) ++ [45]) := mk_append _ [45]
      have e2 : mk (joinL (ps.take i) ++ [45]) ++ mk p = mk (joinL (ps.take (i + 1))) := by rw [mk_append, e]; simp
      rw [e, List.length_append, List.length_cons] at h6
      have hsz : (mk (joinL (ps.take i))).size + 1 ≤ 9223372036854775807 := by rw [mk_size]; omega
      have hsz2 : (mk (joinL (ps.take i) ++ [45])).size + (mk p).size ≤ 9223372036854775807 := by rw [mk_size, mk_size, List.length_append, List.length_singleton]; omega
      simp only [r4_Join.l0, List.length_map, show ((i : Int) < (ps.length : Int)) from by omega, show ((i : Int) > 0) from by omega, show (0 : Int) ≤ (i : Int) from by omega, hg, e1, e2, hsz, hsz2, ↓reduceIte, wrap_lt (show i < ps.length from by omega) hn]
      exact hrec
theorem ref_Join_ev (ps : List Str) (hn : ps.length ≤ 140737488355328) (hs : (joinL ps).length ≤ 140737488355328) : Ev (fun k => r4_Join.f k (ps.map mk)) (mk (joinL ps)) := by
  have := ref_join_l0 ps hn hs ps 0 rfl (by omega)
  exact this
end Go.Proofs.Ytojglflamecnkaa.Iso
