/- What the printed functions of ascii, tag, split, and of their references, come to, in plain words; conditions: texts are shorter than 2^47 bytes (2^42 where pieces are kept). -/
import Derived.Test.YtejnfbfikadpdaaGreatDoorHand1
import Derived.Test.YtejnfbfikadpdaaGreatDoorPx1
import Derived.Test.YtejnfbfikadpdaaGreatDoorPx0
import Derived.Test.YtejnfbfikadpdaaGreatDoorPx6
import Derived.Test.YtejnfbfikadpdaaGreatDoorPx9
import Derived.Test.YtejnfbfikadpdaaGreatDoorPx5
import Derived.Test.YtejnfbfikadpdaaGreatDoorPx8
namespace Go.Proofs.YtejnfbfikadpdaaGreatDoor.Iso
open Go Go.RowKit Go.Proofs.YtejnfbfikadpdaaGreatDoorW.PrintWords
theorem Ev.succ {α : Type} {g : Nat → Option α} {r : α} (h : Ev (fun k => g (k + 1)) r) : Ev g r := by
  obtain ⟨K, hK⟩ := h
  refine ⟨K + 1, fun k hk => ?_⟩
  obtain ⟨m, rfl⟩ : ∃ m, k = m + 1 := ⟨k - 1, by omega⟩
  exact hK m (by omega)
theorem Ev.val {α : Type} {g : Nat → Option α} {r s : α} (h : Ev g r) (e : r = s) : Ev g s := e ▸ h
theorem drop_at {s : ByteArray} {i : Nat} {c : UInt8} {t : Str} (h : (bl s).drop i = c :: t) : i < s.size ∧ bt s i = c.toNat ∧ (bl s).drop (i + 1) = t := by
  have hi : i < s.size := by
    rcases Nat.lt_or_ge i s.size with h1 | h1
    · exact h1
    · rw [List.drop_eq_nil_of_le (by rw [bl_len]; exact h1)] at h; cases h
  rw [List.drop_eq_getElem_cons (by rw [bl_len]; exact hi)] at h
  injection h with h1 h2
  refine ⟨hi, ?_, h2⟩
  unfold bt
  rw [dif_pos (by simpa using hi)]
  have : s[(i : Int).toNat]'(by simpa using hi) = c := by rw [← h1]; simp [bl]; rfl
  rw [this]
theorem drop_nil {s : ByteArray} {i : Nat} (h : (bl s).drop i = []) : s.size ≤ i := by
  have := List.drop_eq_nil_iff.1 h
  rwa [bl_len] at this
theorem wrap_lt {i n : Nat} (h : i < n) (hn : n ≤ 140737488355328) : wrap64 ((i : Int) + 1) = ((i + 1 : Nat) : Int) := by
  unfold wrap64
  omega
end Go.Proofs.YtejnfbfikadpdaaGreatDoor.Iso
namespace Go.Proofs.YtejnfbfikadpdaaGreatDoor.Iso
set_option linter.unusedSimpArgs false
set_option linter.unusedVariables false
open Go Go.RowKit Go.Proofs.YtejnfbfikadpdaaGreatDoorW.PrintWords Go.Proofs.YtejnfbfikadpdaaGreatDoor.P
def kind (c : UInt8) : Int := if isAl c then 1 else if isDg c then 2 else 0
theorem ascii_kind_ev (c : UInt8) : Ev (fun k => ascii_kind.f k c.toNat) (kind c) := by
  refine ⟨2, fun k hk => ?_⟩
  obtain ⟨m, rfl⟩ : ∃ m, k = m + 2 := ⟨k - 2, by omega⟩
  have h := c.toNat_lt
  simp only [ascii_kind.f, ascii_kind.j0, ascii_kind.j1, kind, isAl, isUp, isLow, isDg, Bool.or_eq_true, Bool.and_eq_true, decide_eq_true_eq]
  repeat' split
  all_goals first | rfl | (exfalso; omega) | (simp only [decide_eq_true_eq] at *; first | rfl | (exfalso; omega)) | skip
  all_goals simp_all
  all_goals omega
def clsFrom (a : Int) : Str → Int
  | [] => a
  | c :: t => if kind c = 0 then 0 else clsFrom (Go.bits .or .i64 a (kind c)) t
theorem class_l0 (s : ByteArray) (hn : s.size ≤ 140737488355328) (t : Str) : ∀ (i : Nat) (a : Int), (bl s).drop i = t → i ≤ s.size → Ev (fun k => ascii_Class.l0 k s a s.size i) (clsFrom a t) := by
  induction t with
  | nil =>
    intro i a h hi
    have h1 := drop_nil h
    refine Ev.succ ?_
    simp only [ascii_Class.l0, show ¬ ((i : Int) < (s.size : Int)) from by omega, ↓reduceIte]
    exact Ev.now a
  | cons c t ih =>
    intro i a h _
    obtain ⟨h1, h2, h3⟩ := drop_at h
    refine Ev.succ ?_
    simp only [ascii_Class.l0, show ((i : Int) < (s.size : Int)) from by omega, show (0 : Int) ≤ (i : Int) from by omega, h2, wrap_lt h1 hn, ↓reduceIte]
    refine Ev.bind (ascii_kind_ev c) ?_
    simp only [clsFrom]
    by_cases hk : kind c = 0
    · simp only [hk, ↓reduceIte]; exact Ev.now 0
    · simp only [hk, ↓reduceIte]; exact ih _ _ h3 (by omega)
def enc2 (x y : Bool) : Int := (if x then 1 else 0) + (if y then 2 else 0)
theorem clsFrom_enc : ∀ (t : Str) (x y : Bool), clsFrom (enc2 x y) t = if t.all isAlnum then enc2 (x || t.any isAl) (y || t.any isDg) else 0 := by
  intro t
  induction t with
  | nil => intro x y; simp [clsFrom]
  | cons c t ih =>
    intro x y
    simp only [clsFrom, kind, List.all_cons, List.any_cons, isAlnum]
    have hx : ¬ (isAl c = true ∧ isDg c = true) := by
      simp only [isAl, isUp, isLow, isDg, Bool.or_eq_true, Bool.and_eq_true, decide_eq_true_eq]; omega
    by_cases ha : isAl c = true
    · have hd : isDg c = false := by simpa using fun h => hx ⟨ha, h⟩
      have hb : Go.bits .or .i64 (enc2 x y) 1 = enc2 true y := by cases x <;> cases y <;> decide
      simp only [ha, hd, ↓reduceIte, hb, ih]
      simp [isAlnum]
    · have ha : isAl c = false := by simpa using ha
      by_cases hd : isDg c = true
      · have hb : Go.bits .or .i64 (enc2 x y) 2 = enc2 x true := by cases x <;> cases y <;> decide
        simp only [ha, hd, ↓reduceIte, hb, ih, Bool.false_eq_true]
        simp [isAlnum]
      · have hd : isDg c = false := by simpa using hd
        simp [ha, hd]
theorem cls_enc (s : Str) : clsFrom 0 s = (cls s : Int) := by
  have h := clsFrom_enc s false false
  have h0 : enc2 false false = 0 := by decide
  rw [h0] at h
  rw [h, Bool.false_or, Bool.false_or]
  unfold cls
  cases s with
  | nil => simp [enc2]
  | cons c t =>
    rw [if_neg (show ¬ (c :: t = []) from by simp)]
    by_cases ha : (c :: t).all isAlnum = true
    · rw [if_pos ha, if_pos ha]
      have hall := List.all_eq_true.1 ha
      by_cases h1 : (c :: t).all isAl = true
      · have h2 : (c :: t).any isDg = false := by
          rw [List.any_eq_false]
          intro d hd h3
          have := List.all_eq_true.1 h1 d hd
          simp only [isAl, isUp, isLow, isDg, Bool.or_eq_true, Bool.and_eq_true, decide_eq_true_eq] at this h3; omega
        have h4 : (c :: t).any isAl = true := List.any_eq_true.2 ⟨c, List.mem_cons_self, List.all_eq_true.1 h1 c List.mem_cons_self⟩
        rw [if_pos h1, h2, h4]; rfl
      · rw [if_neg h1]
        have h4 : (c :: t).any isDg = true := by
          have : ∃ d, d ∈ c :: t ∧ ¬ isAl d = true := List.all_eq_false.1 (Bool.eq_false_iff.2 h1)
          obtain ⟨d, hd, hn⟩ := this
          refine List.any_eq_true.2 ⟨d, hd, ?_⟩
          have := hall d hd
          simp only [isAlnum, Bool.or_eq_true] at this
          exact this.resolve_left hn
        by_cases h2 : (c :: t).all isDg = true
        · have h5 : (c :: t).any isAl = false := by
            rw [List.any_eq_false]
            intro d hd h3
            have := List.all_eq_true.1 h2 d hd
            simp only [isAl, isUp, isLow, isDg, Bool.or_eq_true, Bool.and_eq_true, decide_eq_true_eq] at this h3; omega
          rw [if_pos h2, h4, h5]; rfl
        · have : ∃ d, d ∈ c :: t ∧ ¬ isDg d = true := List.all_eq_false.1 (Bool.eq_false_iff.2 h2)
          obtain ⟨d, hd, hn⟩ := this
          have h5 : (c :: t).any isAl = true := by
            refine List.any_eq_true.2 ⟨d, hd, ?_⟩
            have := hall d hd
            simp only [isAlnum, Bool.or_eq_true] at this
            exact this.resolve_right hn
          rw [if_neg h2, h4, h5]; rfl
    · rw [if_neg ha, if_neg ha]; rfl
theorem ascii_Class_ev (s : ByteArray) (hn : s.size ≤ 140737488355328) : Ev (fun k => ascii_Class.f k s) (cls (bl s) : Int) := by
  rw [← cls_enc]
  exact class_l0 s hn (bl s) 0 0 rfl (by omega)
def alpha (s : Str) : Bool := decide (cls s = 1)
def digit (s : Str) : Bool := decide (cls s = 2)
def alnum (s : Str) : Bool := decide (cls s ≠ 0)
def isLang (s : Str) : Bool := alpha s && decide (2 ≤ s.length ∧ s.length ≤ 8)
def isExtl (s : Str) : Bool := alpha s && decide (s.length = 3)
def isScr (s : Str) : Bool := alpha s && decide (s.length = 4)
def isReg (s : Str) : Bool := alpha s && decide (s.length = 2) || digit s && decide (s.length = 3)
def isVar (s : Str) : Bool := alnum s && (decide (5 ≤ s.length ∧ s.length ≤ 8) || decide (s.length = 4) && digit (s.take 1))
def isSing (s : Str) : Bool := alnum s && decide (s.length = 1) && decide (low s ≠ [120])
def isSub (s : Str) : Bool := alnum s && decide (s.length ≤ 8)
theorem ascii_Alpha_ev (s : ByteArray) (hn : s.size ≤ 140737488355328) : Ev (fun k => ascii_Alpha.f k s) (alpha (bl s)) := by
  refine Ev.bind (ascii_Class_ev s hn) ?_
  refine Ev.val (Ev.now _) ?_
  unfold alpha; by_cases h : cls (bl s) = 1 <;> simp [h] ; omega
theorem ascii_Digit_ev (s : ByteArray) (hn : s.size ≤ 140737488355328) : Ev (fun k => ascii_Digit.f k s) (digit (bl s)) := by
  refine Ev.bind (ascii_Class_ev s hn) ?_
  refine Ev.val (Ev.now _) ?_
  unfold digit; by_cases h : cls (bl s) = 2 <;> simp [h] ; omega
theorem ascii_Alnum_ev (s : ByteArray) (hn : s.size ≤ 140737488355328) : Ev (fun k => ascii_Alnum.f k s) (alnum (bl s)) := by
  refine Ev.bind (ascii_Class_ev s hn) ?_
  refine Ev.val (Ev.now _) ?_
  unfold alnum; by_cases h : cls (bl s) = 0 <;> simp [h]
theorem tag_long_eq (s : ByteArray) (a b : Int) : tag_long.f s a b = some (decide (a ≤ (bl s).length) && decide (((bl s).length : Int) ≤ b)) := by
  unfold tag_long.f
  rw [bl_len]
  by_cases h : (s.size : Int) ≥ a
  · rw [if_pos h, decide_eq_true (show a ≤ (s.size : Int) from h)]; rfl
  · rw [if_neg h, decide_eq_false (show ¬ a ≤ (s.size : Int) from h)]; rfl
theorem tag_Language_ev (s : ByteArray) (hn : s.size ≤ 140737488355328) : Ev (fun k => tag_Language.f k s) (isLang (bl s)) := by
  refine Ev.bind (ascii_Alpha_ev s hn) ?_
  simp only [tag_long_eq, Option.bind_some]
  unfold isLang
  cases alpha (bl s)
  · exact Ev.now _
  · refine Ev.val (Ev.now _) ?_
    simp only [Bool.true_and, ← Bool.decide_and]
    congr 1; apply propext; omega
theorem tag_Extlang_ev (s : ByteArray) (hn : s.size ≤ 140737488355328) : Ev (fun k => tag_Extlang.f k s) (isExtl (bl s)) := by
  refine Ev.bind (ascii_Alpha_ev s hn) ?_
  unfold isExtl
  cases alpha (bl s)
  · exact Ev.now _
  · refine Ev.val (Ev.now _) ?_
    rw [bl_len]; by_cases h : s.size = 3 <;> simp [h]; omega
theorem tag_Script_ev (s : ByteArray) (hn : s.size ≤ 140737488355328) : Ev (fun k => tag_Script.f k s) (isScr (bl s)) := by
  refine Ev.bind (ascii_Alpha_ev s hn) ?_
  unfold isScr
  cases alpha (bl s)
  · exact Ev.now _
  · refine Ev.val (Ev.now _) ?_
    rw [bl_len]; by_cases h : s.size = 4 <;> simp [h]; omega
theorem tag_Region_ev (s : ByteArray) (hn : s.size ≤ 140737488355328) : Ev (fun k => tag_Region.f k s) (isReg (bl s)) := by
  refine Ev.bind (ascii_Alpha_ev s hn) ?_
  unfold isReg
  have hd : Ev (fun n => (ascii_Digit.f n s).bind fun t105 => if t105 = true then some ((s.size : Int) == 3) else some false) (digit (bl s) && decide ((bl s).length = 3)) := by
    refine Ev.bind (ascii_Digit_ev s hn) ?_
    cases digit (bl s)
    · exact Ev.now _
    · refine Ev.val (Ev.now _) ?_
      rw [bl_len]; by_cases h : s.size = 3 <;> simp [h]; omega
  cases alpha (bl s)
  · simpa using hd
  · by_cases h : s.size = 2
    · simp only [h, bl_len, ↓reduceIte, decide_true, Bool.true_or, Bool.true_and]; exact Ev.now _
    · have h' : ¬ ((s.size : Int) = 2) := by omega
      simp only [h', ↓reduceIte]
      rw [bl_len s]
      simp only [h, decide_false, Bool.and_false, Bool.false_or]
      rw [← bl_len s]; exact hd
theorem tag_Variant_ev (s : ByteArray) (hn : s.size ≤ 140737488355328) : Ev (fun k => tag_Variant.f k s) (isVar (bl s)) := by
  refine Ev.bind (ascii_Alnum_ev s hn) ?_
  unfold isVar
  simp only [tag_long_eq, Option.bind_some]
  cases alnum (bl s)
  · exact Ev.now _
  · have e : (decide ((5 : Int) ≤ (bl s).length) && decide (((bl s).length : Int) ≤ 8)) = decide (5 ≤ (bl s).length ∧ (bl s).length ≤ 8) := by
      rw [← Bool.decide_and]; congr 1; apply propext; omega
    rw [e]
    by_cases h : 5 ≤ (bl s).length ∧ (bl s).length ≤ 8
    · simp only [h, decide_true, ↓reduceIte, Bool.true_or, Bool.true_and, and_self]; exact Ev.now _
    · simp only [h, decide_false, ↓reduceIte, Bool.false_or, Bool.true_and, Bool.false_eq_true]
      rw [bl_len s]
      by_cases h4 : s.size = 4
      · simp only [h4, ↓reduceIte, decide_true, Bool.true_and]
        have he : ((s.extract 0 1).size) ≤ 140737488355328 := by rw [ByteArray.size_extract]; omega
        have := ascii_Digit_ev (s.extract 0 1) he
        rw [bl_extract, List.drop_zero] at this
        simp only [show ((0 : Int) ≤ 1) from by omega, show ((1 : Int) ≤ ((4 : Nat) : Int)) from by omega, show (((4 : Nat) : Int) = 4) from rfl, ↓reduceIte]
        refine Ev.bind this ?_
        exact Ev.now _
      · have h' : ¬ ((s.size : Int) = 4) := by omega
        simp only [h', h4, ↓reduceIte, decide_false, Bool.false_and]; exact Ev.now _
theorem lowC_nat (c : UInt8) : (lowC c).toNat = if 65 ≤ c.toNat ∧ c.toNat ≤ 90 then c.toNat + 32 else c.toNat := by
  have := byte_all (fun c => decide ((lowC c).toNat = if 65 ≤ c.toNat ∧ c.toNat ≤ 90 then c.toNat + 32 else c.toNat)) (by decide +kernel) c
  exact of_decide_eq_true this
theorem upC_nat (c : UInt8) : (upC c).toNat = if 97 ≤ c.toNat ∧ c.toNat ≤ 122 then c.toNat - 32 else c.toNat := by
  have := byte_all (fun c => decide ((upC c).toNat = if 97 ≤ c.toNat ∧ c.toNat ≤ 122 then c.toNat - 32 else c.toNat)) (by decide +kernel) c
  exact of_decide_eq_true this
theorem ascii_lower_eq (c : UInt8) : ascii_lower.f (c.toNat : Int) = some ((lowC c).toNat : Int) := by
  have := c.toNat_lt
  unfold ascii_lower.f
  rw [lowC_nat]
  by_cases h : 65 ≤ c.toNat ∧ c.toNat ≤ 90
  · rw [if_pos (by omega), if_pos (by omega), if_pos h]; congr 1; omega
  · rw [if_neg h]; split
    · rw [if_neg (by omega)]
    · rfl
theorem ref_lower_eq (c : UInt8) : r2_lower.f (c.toNat : Int) = some ((lowC c).toNat : Int) := by
  have := c.toNat_lt
  unfold r2_lower.f
  rw [lowC_nat]
  by_cases h : 65 ≤ c.toNat ∧ c.toNat ≤ 90
  · rw [if_pos (by omega), if_pos (by omega), if_pos h]; congr 1; omega
  · rw [if_neg h]; split
    · rw [if_neg (by omega)]
    · rfl
theorem ref_upper_eq (c : UInt8) : r2_upper.f (c.toNat : Int) = some ((upC c).toNat : Int) := by
  have := c.toNat_lt
  unfold r2_upper.f
  rw [upC_nat]
  by_cases h : 97 ≤ c.toNat ∧ c.toNat ≤ 122
  · rw [if_pos (by omega), if_pos (by omega), if_pos h]; congr 1; omega
  · rw [if_neg h]; split
    · rw [if_neg (by omega)]
    · rfl
def cmpL : Str → Str → Int
  | [], [] => 0
  | [], _ :: _ => -1
  | _ :: _, [] => 1
  | c :: s, d :: t => if c.toNat < d.toNat then -1 else if c.toNat > d.toNat then 1 else cmpL s t
theorem cmpL_zero : ∀ (s t : Str), cmpL s t = 0 ↔ s = t
  | [], [] => by simp [cmpL]
  | [], _ :: _ => by simp [cmpL]
  | _ :: _, [] => by simp [cmpL]
  | c :: s, d :: t => by
    simp only [cmpL, List.cons.injEq]
    by_cases h1 : c.toNat < d.toNat
    · rw [if_pos h1]; simp; rintro rfl; omega
    · by_cases h2 : c.toNat > d.toNat
      · rw [if_neg h1, if_pos h2]; simp; rintro rfl; omega
      · rw [if_neg h1, if_neg h2, cmpL_zero s t]
        have : c = d := UInt8.toNat_inj.1 (by omega)
        simp [this]
theorem ordb (a b : Int) : ascii_order_byte.f a b = some (if a < b then -1 else if a > b then 1 else 0) := by
  unfold ascii_order_byte.f; by_cases h : a < b
  · rw [if_pos h, if_pos h]
  · rw [if_neg h, if_neg h]; by_cases h2 : a > b
    · rw [if_pos h2, if_pos h2]
    · rw [if_neg h2, if_neg h2]
theorem ordi (a b : Int) : ascii_order_int.f a b = some (if a < b then -1 else if a > b then 1 else 0) := by
  unfold ascii_order_int.f; by_cases h : a < b
  · rw [if_pos h, if_pos h]
  · rw [if_neg h, if_neg h]; by_cases h2 : a > b
    · rw [if_pos h2, if_pos h2]
    · rw [if_neg h2, if_neg h2]
theorem cmp_l0 (a b : ByteArray) (ha : a.size ≤ 140737488355328) (hb : b.size ≤ 140737488355328) (s : Str) : ∀ (t : Str) (i : Nat), (bl a).drop i = s → (bl b).drop i = t → i ≤ a.size → i ≤ b.size →
    Ev (fun k => ascii_Compare.l0 k a b (mn a.size b.size) i) (cmpL (low s) (low t)) := by
  induction s with
  | nil =>
    intro t i hs ht h1 h2
    have := drop_nil hs
    refine Ev.succ ?_
    have hm : ¬ ((i : Int) < mn a.size b.size) := by unfold mn; split <;> omega
    simp only [ascii_Compare.l0, hm, ↓reduceIte, ordi, Option.bind_some]
    refine Ev.val (Ev.now _) ?_
    cases t with
    | nil => have := drop_nil ht; rw [if_neg (by omega), if_neg (by omega)]; rfl
    | cons d t => have := (drop_at ht).1; rw [if_pos (by omega)]; rfl
  | cons c s ih =>
    intro t i hs ht h1 h2
    obtain ⟨p1, p2, p3⟩ := drop_at hs
    cases t with
    | nil =>
      have := drop_nil ht
      refine Ev.succ ?_
      have hm : ¬ ((i : Int) < mn a.size b.size) := by unfold mn; split <;> omega
      simp only [ascii_Compare.l0, hm, ↓reduceIte, ordi, Option.bind_some]
      refine Ev.val (Ev.now _) ?_
      rw [if_neg (by omega), if_pos (by omega)]; rfl
    | cons d t =>
      obtain ⟨q1, q2, q3⟩ := drop_at ht
      refine Ev.succ ?_
      have hm : (i : Int) < mn a.size b.size := by unfold mn; split <;> omega
      simp only [ascii_Compare.l0, hm, show (0 : Int) ≤ (i : Int) from by omega, show (i : Int) < (a.size : Int) from by omega, show (i : Int) < (b.size : Int) from by omega, p2, q2, ↓reduceIte, ascii_lower_eq, ordb, Option.bind_some, wrap_lt p1 ha]
      simp only [low, List.map_cons, cmpL]
      have hi := ih t (i + 1) p3 q3 (by omega) (by omega)
      by_cases c1 : (lowC c).toNat < (lowC d).toNat
      · simp only [show ((lowC c).toNat : Int) < (lowC d).toNat from by omega, c1, ↓reduceIte]; exact Ev.now _
      · by_cases c2 : (lowC c).toNat > (lowC d).toNat
        · simp only [show ¬ ((lowC c).toNat : Int) < (lowC d).toNat from by omega, show ((lowC c).toNat : Int) > (lowC d).toNat from by omega, c1, c2, ↓reduceIte]; exact Ev.now _
        · simp only [show ¬ ((lowC c).toNat : Int) < (lowC d).toNat from by omega, show ¬ ((lowC c).toNat : Int) > (lowC d).toNat from by omega, c1, c2, ↓reduceIte]; exact hi
theorem ascii_Compare_ev (a b : ByteArray) (ha : a.size ≤ 140737488355328) (hb : b.size ≤ 140737488355328) : Ev (fun k => ascii_Compare.f k a b) (cmpL (low (bl a)) (low (bl b))) :=
  cmp_l0 a b ha hb _ _ 0 rfl rfl (by omega) (by omega)
def same (s t : Str) : Bool := decide (low s = low t)
theorem ascii_Same_ev (a b : ByteArray) (ha : a.size ≤ 140737488355328) (hb : b.size ≤ 140737488355328) : Ev (fun k => ascii_Same.f k a b) (same (bl a) (bl b)) := by
  refine Ev.bind (ascii_Compare_ev a b ha hb) ?_
  refine Ev.val (Ev.now _) ?_
  unfold same
  by_cases h : low (bl a) = low (bl b)
  · rw [(cmpL_zero _ _).2 h, h]; simp
  · have := mt (cmpL_zero _ _).1 h
    simp [h, this]
theorem tag_Singleton_ev (s : ByteArray) (hn : s.size ≤ 140737488355328) : Ev (fun k => tag_Singleton.f k s) (isSing (bl s)) := by
  refine Ev.bind (ascii_Alnum_ev s hn) ?_
  unfold isSing
  cases alnum (bl s)
  · exact Ev.now _
  · simp only [↓reduceIte, Bool.true_and, bl_len]
    by_cases h : s.size = 1
    · simp only [h, show (((1 : Nat) : Int) = 1) from rfl, ↓reduceIte, decide_true, Bool.true_and]
      refine Ev.bind (ascii_Same_ev s ⟨#[120]⟩ hn (by decide)) ?_
      refine Ev.val (Ev.now _) ?_
      have e : low (bl ⟨#[120]⟩) = [120] := by decide
      unfold same
      rw [e]
      by_cases h2 : low (bl s) = [120] <;> simp [h2]
    · have h' : ¬ ((s.size : Int) = 1) := by omega
      simp only [h', h, ↓reduceIte, decide_false, Bool.false_and]; exact Ev.now _
end Go.Proofs.YtejnfbfikadpdaaGreatDoor.Iso
namespace Go.Proofs.YtejnfbfikadpdaaGreatDoor.Iso
set_option linter.unusedSimpArgs false
set_option linter.unusedVariables false
open Go Go.RowKit Go.Proofs.YtejnfbfikadpdaaGreatDoorW.PrintWords Go.Proofs.YtejnfbfikadpdaaGreatDoor.P
theorem strOf (l : Str) : strOfNums (l.map fun c => (c.toNat : Int)) = mk l := by
  unfold strOfNums mk
  congr 2
  rw [List.map_map]
  conv => rhs; rw [← List.map_id l]
  refine List.map_congr_left fun c _ => ?_
  simp
theorem ref_lower_l0 (s : ByteArray) (hn : s.size ≤ 140737488355328) (t : Str) : ∀ (i : Nat) (a : Str), (bl s).drop i = t → a.length = i → i ≤ s.size →
    Ev (fun k => r2_Lower.l0 k s (a.map fun c => (c.toNat : Int)) i) (mk (a ++ low t)) := by
  induction t with
  | nil =>
    intro i a h ha hi
    have h1 := drop_nil h
    refine Ev.succ ?_
    simp only [r2_Lower.l0, show ¬ ((i : Int) < (s.size : Int)) from by omega, ↓reduceIte, strOf]
    simp only [low, List.map_nil, List.append_nil]
    exact Ev.now _
  | cons c t ih =>
    intro i a h ha hi
    obtain ⟨h1, h2, h3⟩ := drop_at h
    refine Ev.succ ?_
    have hl : ((a.map fun c => (c.toNat : Int)).length < 140737488355328) := by rw [List.length_map]; omega
    simp only [r2_Lower.l0, show ((i : Int) < (s.size : Int)) from by omega, show (0 : Int) ≤ (i : Int) from by omega, h2, wrap_lt h1 hn, ↓reduceIte, ref_lower_eq, Option.bind_some, hl]
    have := ih (i + 1) (a ++ [lowC c]) h3 (by simp [ha]) (by omega)
    simpa [low, List.map_append] using this
theorem ref_Lower_ev (s : ByteArray) (hn : s.size ≤ 140737488355328) : Ev (fun k => r2_Lower.f k s) (mk (low (bl s))) := by
  have := ref_lower_l0 s hn (bl s) 0 [] rfl rfl (by omega)
  rw [List.nil_append] at this
  exact this
theorem ref_upper_l0 (s : ByteArray) (hn : s.size ≤ 140737488355328) (t : Str) : ∀ (i : Nat) (a : Str), (bl s).drop i = t → a.length = i → i ≤ s.size →
    Ev (fun k => r2_Upper.l0 k s (a.map fun c => (c.toNat : Int)) i) (mk (a ++ up t)) := by
  induction t with
  | nil =>
    intro i a h ha hi
    have h1 := drop_nil h
    refine Ev.succ ?_
    simp only [r2_Upper.l0, show ¬ ((i : Int) < (s.size : Int)) from by omega, ↓reduceIte, strOf]
    simp only [up, List.map_nil, List.append_nil]
    exact Ev.now _
  | cons c t ih =>
    intro i a h ha hi
    obtain ⟨h1, h2, h3⟩ := drop_at h
    refine Ev.succ ?_
    have hl : ((a.map fun c => (c.toNat : Int)).length < 140737488355328) := by rw [List.length_map]; omega
    simp only [r2_Upper.l0, show ((i : Int) < (s.size : Int)) from by omega, show (0 : Int) ≤ (i : Int) from by omega, h2, wrap_lt h1 hn, ↓reduceIte, ref_upper_eq, Option.bind_some, hl]
    have := ih (i + 1) (a ++ [upC c]) h3 (by simp [ha]) (by omega)
    simpa [up, List.map_append] using this
theorem ref_Upper_ev (s : ByteArray) (hn : s.size ≤ 140737488355328) : Ev (fun k => r2_Upper.f k s) (mk (up (bl s))) := by
  have := ref_upper_l0 s hn (bl s) 0 [] rfl rfl (by omega)
  rw [List.nil_append] at this
  exact this
end Go.Proofs.YtejnfbfikadpdaaGreatDoor.Iso
namespace Go.Proofs.YtejnfbfikadpdaaGreatDoor.Iso
set_option linter.unusedSimpArgs false
set_option linter.unusedVariables false
open Go Go.RowKit Go.Proofs.YtejnfbfikadpdaaGreatDoorW.PrintWords Go.Proofs.YtejnfbfikadpdaaGreatDoor.P
def sp (acc : Str) : Str → List Str
  | [] => [acc]
  | c :: t => if c = 45 then acc :: sp [] t else sp (acc ++ [c]) t
theorem eachGo_sp : ∀ (s : Str) (a : Nat) (acc : Str), (eachGo a acc s).map (·.2) = sp acc s
  | [], _, _ => rfl
  | c :: t, a, acc => by
    unfold eachGo sp
    by_cases h : c = 45
    · rw [if_pos h, if_pos h, List.map_cons, eachGo_sp]
    · rw [if_neg h, if_neg h, eachGo_sp]
theorem split_sp (s : Str) : split s = sp [] s := eachGo_sp s 0 []
theorem sp_ne (s acc : Str) : sp acc s ≠ [] := by
  induction s generalizing acc with
  | nil => simp [sp]
  | cons c t ih => unfold sp; split; simp; exact ih _
def tailJ : List Str → Str
  | [] => []
  | p :: t => 45 :: (p ++ tailJ t)
def joinL : List Str → Str
  | [] => []
  | p :: t => p ++ tailJ t
theorem tailJ_append (a b : List Str) : tailJ (a ++ b) = tailJ a ++ tailJ b := by
  induction a with
  | nil => rfl
  | cons p a ih => simp [tailJ, ih]
theorem joinL_append (a b : List Str) (h : a ≠ []) : joinL (a ++ b) = joinL a ++ tailJ b := by
  cases a with
  | nil => exact absurd rfl h
  | cons p a => simp [joinL, tailJ_append]
theorem sp_join (s acc : Str) : joinL (sp acc s) = acc ++ s := by
  induction s generalizing acc with
  | nil => simp [sp, joinL, tailJ]
  | cons c s ih =>
    unfold sp
    by_cases h : c = 45
    · rw [if_pos h]
      have := ih []
      cases hs : sp [] s with
      | nil => exact absurd hs (sp_ne _ _)
      | cons p t =>
        rw [hs] at this
        simp only [joinL, List.nil_append] at this
        simp only [joinL, tailJ]
        rw [this, h]
    · rw [if_neg h, ih]; simp
theorem join_split (s : Str) : joinL (split s) = s := by rw [split_sp, sp_join, List.nil_append]
theorem sp_map (f : UInt8 → UInt8) (hf : ∀ c, f c = 45 ↔ c = 45) (s acc : Str) : sp (acc.map f) (s.map f) = (sp acc s).map (List.map f) := by
  induction s generalizing acc with
  | nil => simp [sp]
  | cons c s ih =>
    rw [List.map_cons]
    unfold sp
    by_cases h : c = 45
    · rw [if_pos h, if_pos ((hf c).2 h), List.map_cons, ← ih]; rfl
    · rw [if_neg h, if_neg (fun h2 => h ((hf c).1 h2)), ← ih]; simp
theorem lowC_dash (c : UInt8) : lowC c = 45 ↔ c = 45 := of_decide_eq_true (byte_all (fun c => decide (lowC c = 45 ↔ c = 45)) (by decide +kernel) c)
theorem split_low (s : Str) : split (low s) = (split s).map low := by
  rw [split_sp, split_sp]; exact sp_map lowC lowC_dash s []
theorem low_length (s : Str) : (low s).length = s.length := List.length_map _
theorem up_length (s : Str) : (up s).length = s.length := List.length_map _
theorem ref_each_l0 (s : ByteArray) (hn : s.size ≤ 4398046511104) (t : Str) : ∀ (i a : Nat) (L : List S87), (bl s).drop i = t → a ≤ i → i ≤ s.size → L.length ≤ i →
    Ev (fun k => r4_Each.l0 k s L a i) (L ++ (eachGo a (((bl s).drop a).take (i - a)) t).map fun p => (⟨(p.1 : Int), mk p.2⟩ : S87)) := by
  have hx : ∀ a i : Nat, s.extract a i = mk (((bl s).drop a).take (i - a)) := fun a i => by rw [← mk_bl (s.extract a i), bl_extract]
  induction t with
  | nil =>
    intro i a L h h1 h2 h3
    have g := drop_nil h
    obtain rfl : i = s.size := by omega
    refine Ev.succ (Ev.succ ?_)
    simp only [r4_Each.l0, show ((s.size : Int) ≤ (s.size : Int)) from by omega, show (0 : Int) ≤ (a : Int) from by omega, show ((a : Int) ≤ (s.size : Int)) from by omega, show L.length < 5864062014805 from by omega, wrap_lt (Nat.lt_succ_self s.size) (by omega), show ¬ (((s.size + 1 : Nat) : Int) ≤ (s.size : Int)) from by omega, ↓reduceIte, Int.toNat_natCast]
    rw [hx]
    simp only [eachGo, List.map_cons, List.map_nil]
    exact Ev.now _
  | cons c t ih =>
    intro i a L h h1 h2 h3
    obtain ⟨g1, g2, g3⟩ := drop_at h
    refine Ev.succ ?_
    simp only [r4_Each.l0, show ((i : Int) ≤ (s.size : Int)) from by omega, show ¬ ((i : Int) = (s.size : Int)) from by omega, show (0 : Int) ≤ (i : Int) from by omega, show ((i : Int) < (s.size : Int)) from by omega, g2, show (0 : Int) ≤ (a : Int) from by omega, show ((a : Int) ≤ (i : Int)) from by omega, show L.length < 5864062014805 from by omega, wrap_lt g1 (by omega), ↓reduceIte, Int.toNat_natCast]
    have hlen : (((bl s).drop a).take (i - a)).length = i - a := by rw [List.length_take, List.length_drop, bl_len]; omega
    unfold eachGo
    by_cases hc : c = 45
    · subst hc
      simp only [show (((45 : UInt8).toNat : Int) = 45) from rfl, ↓reduceIte]
      have := ih (i + 1) (i + 1) (L ++ [⟨(a : Int), s.extract a i⟩]) g3 (by omega) (by omega) (by simp; omega)
      rw [Nat.sub_self, List.take_zero] at this
      rw [hlen, show a + (i - a) + 1 = i + 1 from by omega, List.map_cons, ← hx]
      simpa using this
    · have hc' : ¬ ((c.toNat : Int) = 45) := fun h => hc (UInt8.toNat_inj.1 (by have : (45 : UInt8).toNat = 45 := rfl; omega))
      simp only [hc', hc, ↓reduceIte]
      have := ih (i + 1) a L g3 (by omega) (by omega) (by omega)
      have e : ((bl s).drop a).take (i + 1 - a) = ((bl s).drop a).take (i - a) ++ [c] := by
        rw [show i + 1 - a = (i - a) + 1 from by omega, List.take_add_one, List.getElem?_drop, show a + (i - a) = i from by omega]
        congr 1
        have h9 : (bl s)[i]? = some c := by
          have := congrArg (·[0]?) h
          simpa using this
        rw [h9]; rfl
      rw [e] at this
      exact this
theorem ref_Each_ev (s : ByteArray) (hn : s.size ≤ 4398046511104) : Ev (fun k => r4_Each.f k s) ((each (bl s)).map fun p => (⟨(p.1 : Int), mk p.2⟩ : S87)) := by
  have := ref_each_l0 s hn (bl s) 0 0 [] rfl (by omega) (by omega) (by simp)
  rw [List.nil_append] at this
  exact this
theorem ref_split_l0 (P : List S87) (hn : P.length ≤ 4398046511105) (t : List S87) : ∀ (i : Nat) (L : List ByteArray), P.drop i = t → L.length = i → i ≤ P.length →
    Ev (fun k => r4_Split.l0 k L P i) (L ++ t.map (·.f1)) := by
  induction t with
  | nil =>
    intro i L h h1 h2
    have g := List.drop_eq_nil_iff.1 h
    refine Ev.succ ?_
    simp only [r4_Split.l0, show ¬ ((i : Int) < (P.length : Int)) from by omega, ↓reduceIte, List.map_nil, List.append_nil]
    exact Ev.now _
  | cons p t ih =>
    intro i L h h1 h2
    have hl := congrArg List.length h
    rw [List.length_drop, List.length_cons] at hl
    have hp : P[i]? = some p := by
      have := congrArg (·[0]?) h
      simpa using this
    have hg : rd_T87 P (i : Int) = p := by
      unfold rd_T87
      rw [Int.toNat_natCast, List.getD_eq_getElem?_getD, hp]; rfl
    have hd : P.drop (i + 1) = t := by
      rw [← List.drop_drop, h]; rfl
    refine Ev.succ ?_
    simp only [r4_Split.l0, show ((i : Int) < (P.length : Int)) from by omega, show (0 : Int) ≤ (i : Int) from by omega, show L.length < 8796093022208 from by omega, hg, wrap_lt (show i < P.length from by omega) (by omega), ↓reduceIte]
    have := ih (i + 1) (L ++ [p.f1]) hd (by simp [h1]) (by omega)
    simpa using this
theorem ref_Split_ev (s : ByteArray) (hn : s.size ≤ 4398046511104) : Ev (fun k => r4_Split.f k s) ((split (bl s)).map mk) := by
  refine Ev.bind (ref_Each_ev s hn) ?_
  have hl := eachGo_length (bl s) 0 []
  rw [bl_len] at hl
  have := ref_split_l0 ((each (bl s)).map fun p => (⟨(p.1 : Int), mk p.2⟩ : S87)) (by rw [List.length_map]; unfold each; omega) _ 0 [] rfl rfl (by omega)
  rw [List.nil_append, List.drop_zero, List.map_map] at this
  rw [split, List.map_map]
  exact this
theorem split_Split_eq (s : ByteArray) (hn : s.size < 8796093022207) : split_Split.f s = some ((split (bl s)).map mk) := by
  unfold split_Split.f
  rw [if_pos hn, split, List.map_map]
  unfold eachB
  rw [List.map_map]; rfl
theorem split_length (s : Str) : (split s).length ≤ s.length + 1 := by
  rw [split, List.length_map]; exact eachGo_length s 0 []
theorem getMk (ps : List Str) (i : Nat) (p : Str) (h : ps[i]? = some p) : rdOf ByteArray.empty (ps.map mk) (i : Int) = mk p := by
  unfold rdOf
  rw [Int.toNat_natCast, List.getD_eq_getElem?_getD, List.getElem?_map, h]; rfl
theorem mk_append (a b : Str) : mk a ++ mk b = mk (a ++ b) := by
  refine bl_inj ?_
  show (mk a ++ mk b).data.toList = _
  rw [ByteArray.data_append, Array.toList_append]; rfl
theorem joinL_len_take (ps : List Str) (i : Nat) : (joinL (ps.take i)).length ≤ (joinL ps).length := by
  cases i with
  | zero => simp [joinL]
  | succ i =>
    cases ps with
    | nil => simp
    | cons p t =>
      conv => rhs; rw [← List.take_append_drop (i + 1) (p :: t), joinL_append _ _ (by simp)]
      simp
theorem ref_join_l0 (ps : List Str) (hn : ps.length ≤ 140737488355328) (hs : (joinL ps).length ≤ 140737488355328) (t : List Str) : ∀ (i : Nat), ps.drop i = t → i ≤ ps.length →
    Ev (fun k => r4_Join.l0 k (ps.map mk) (mk (joinL (ps.take i))) i) (mk (joinL ps)) := by
  induction t with
  | nil =>
    intro i h h2
    have g := List.drop_eq_nil_iff.1 h
    refine Ev.succ ?_
    simp only [r4_Join.l0, List.length_map, show ¬ ((i : Int) < (ps.length : Int)) from by omega, ↓reduceIte, List.take_of_length_le g]
    exact Ev.now _
  | cons p t ih =>
    intro i h h2
    have hl := congrArg List.length h
    rw [List.length_drop, List.length_cons] at hl
    have hp : ps[i]? = some p := by
      have := congrArg (·[0]?) h
      simpa using this
    have hd : ps.drop (i + 1) = t := by
      rw [← List.drop_drop, h]; rfl
    have ht : ps.take (i + 1) = ps.take i ++ [p] := by rw [List.take_add_one, hp]; rfl
    have h5 := joinL_len_take ps i
    have h6 := joinL_len_take ps (i + 1)
    refine Ev.succ ?_
    have hrec := ih (i + 1) hd (by omega)
    have hg := getMk ps i p hp
    by_cases h0 : i = 0
    · subst h0
      have e : joinL (ps.take 1) = p := by rw [show (1 : Nat) = 0 + 1 from rfl, ht]; simp [joinL, tailJ]
      have e0 : mk (joinL (ps.take 0)) ++ mk p = mk (joinL (ps.take (0 + 1))) := by rw [mk_append, e]; simp [joinL]
      have hsz : (mk (joinL (ps.take 0))).size + (mk p).size ≤ 9223372036854775807 := by
        rw [mk_size, mk_size]; rw [show (0 : Nat) + 1 = 1 from rfl, e] at h6; simp only [List.take_zero, joinL, List.length_nil]; omega
      simp only [r4_Join.l0, List.length_map, show ((((0 : Nat) : Int)) < (ps.length : Int)) from by omega, show ¬ (((0 : Nat) : Int) > 0) from by omega, show (0 : Int) ≤ ((0 : Nat) : Int) from by omega, hg, hsz, ↓reduceIte, e0, wrap_lt (show 0 < ps.length from by omega) hn]
      exact hrec
    · have hne : ps.take i ≠ [] := fun hh => by have := congrArg List.length hh; rw [List.length_take, List.length_nil] at this; omega
      have e : joinL (ps.take (i + 1)) = joinL (ps.take i) ++ 45 :: p := by rw [ht, joinL_append _ _ hne]; simp [tailJ]
      have e1 : mk (joinL (ps.take i)) ++ (⟨#[45]⟩ : ByteArray) = mk (joinL (ps.take i) ++ [45]) := mk_append _ [45]
      have e2 : mk (joinL (ps.take i) ++ [45]) ++ mk p = mk (joinL (ps.take (i + 1))) := by rw [mk_append, e]; simp
      rw [e, List.length_append, List.length_cons] at h6
      have hsz : (mk (joinL (ps.take i))).size + 1 ≤ 9223372036854775807 := by rw [mk_size]; omega
      have hsz2 : (mk (joinL (ps.take i) ++ [45])).size + (mk p).size ≤ 9223372036854775807 := by rw [mk_size, mk_size, List.length_append, List.length_singleton]; omega
      simp only [r4_Join.l0, List.length_map, show ((i : Int) < (ps.length : Int)) from by omega, show ((i : Int) > 0) from by omega, show (0 : Int) ≤ (i : Int) from by omega, hg, e1, e2, hsz, hsz2, ↓reduceIte, wrap_lt (show i < ps.length from by omega) hn]
      exact hrec
theorem ref_Join_ev (ps : List Str) (hn : ps.length ≤ 140737488355328) (hs : (joinL ps).length ≤ 140737488355328) : Ev (fun k => r4_Join.f k (ps.map mk)) (mk (joinL ps)) := by
  have := ref_join_l0 ps hn hs ps 0 rfl (by omega)
  exact this
end Go.Proofs.YtejnfbfikadpdaaGreatDoor.Iso
