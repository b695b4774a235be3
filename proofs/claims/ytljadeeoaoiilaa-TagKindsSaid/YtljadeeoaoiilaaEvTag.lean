/- What the printed functions of the chapters ascii and tag, and their references, come to, in plain words; conditions: texts are shorter than 2^47 bytes. -/
import Derived.Test.YtljadeeoaoiilaaPlain
import Derived.Test.YtljadeeoaoiilaaPx1
import Derived.Test.YtljadeeoaoiilaaPx6
import Derived.Test.YtljadeeoaoiilaaPx7
import Derived.Test.YtljadeeoaoiilaaPx8
namespace Go.Proofs.Ytljadeeoaoiilaa.Iso
open Go Go.RowKit Go.Proofs.YtljadeeoaoiilaaW.PrintWords
theorem Ev.succ {α : Type} {g : Nat → Option α} {r : α} (h : Ev (fun k => g (k + 1)) r) : Ev g r := by
  obtain ⟨K, hK⟩ := h
  refine ⟨K + 1, fun k hk => ?_⟩
  obtain ⟨m, rfl⟩ : ∃ m, k = m + 1 := ⟨k - 1, by omega⟩
  exact hK m (by omega)
theorem Ev.val {α : Type} {g : Nat → Option α} {r s : α} (h : Ev g r) (e : r = s) : Ev g s := e ▸ h
theorem drop_at {s : ByteArray} {i : Nat} {c : UInt8} {t : Str} (h : (bl s).drop i = c :: t) : i < s.size ∧ bt s i = c.toNat ∧ (bl s).drop (i + 1) = t := by
  have hi : i < s.size := by
    rcases Nat.lt_or_ge i s.size with h1 | h1
    · exact h1
    · rw [List.drop_eq_nil_of_le (by rw [bl_len]; exact h1)] at h; cases h
  rw [List.drop_eq_getElem_cons (by rw [bl_len]; exact hi)] at h
  injection h with h1 h2
  refine ⟨hi, ?_, h2⟩
  unfold bt
  rw [dif_pos (by simpa using hi)]
  have : s[(i : Int).toNat]'(by simpa using hi) = c := by rw [← h1]; simp [bl]; rfl
  rw [this]
theorem drop_nil {s : ByteArray} {i : Nat} (h : (bl s).drop i = []) : s.size ≤ i := by
  have := List.drop_eq_nil_iff.1 h
  rwa [bl_len] at this
theorem wrap_lt {i n : Nat} (h : i < n) (hn : n ≤ 140737488355328) : wrap64 ((i : Int) + 1) = ((i + 1 : Nat) : Int) := by
  unfold wrap64
  omega
end Go.Proofs.Ytljadeeoaoiilaa.Iso
namespace Go.Proofs.Ytljadeeoaoiilaa.Iso
set_option linter.unusedSimpArgs false
set_option linter.unusedVariables false
open Go Go.RowKit Go.Proofs.YtljadeeoaoiilaaW.PrintWords Go.Proofs.Ytljadeeoaoiilaa.P
def kind (c : UInt8) : Int := if isAl c then 1 else if isDg c then 2 else 0
theorem ascii_kind_ev (c : UInt8) : Ev (fun k => ascii_kind.f k c.toNat) (kind c) := by
  refine ⟨2, fun k hk => ?_⟩
  obtain ⟨m, rfl⟩ : ∃ m, k = m + 2 := ⟨k - 2, by omega⟩
  have h := c.toNat_lt
  simp only [ascii_kind.f, ascii_kind.j0, ascii_kind.j1, kind, isAl, isUp, isLow, isDg, Bool.or_eq_true, Bool.and_eq_true, decide_eq_true_eq]
  repeat' split
  all_goals first | rfl | (exfalso; omega) | (simp only [decide_eq_true_eq] at *; first | rfl | (exfalso; omega)) | skip
  all_goals simp_all
  all_goals omega
/-- The bits of what was there, as the loop has them. -/
def clsFrom (a : Int) : Str → Int
  | [] => a
  | c :: t => if kind c = 0 then 0 else clsFrom (Go.bits .or .i64 a (kind c)) t
theorem class_l0 (s : ByteArray) (hn : s.size ≤ 140737488355328) (t : Str) : ∀ (i : Nat) (a : Int), (bl s).drop i = t → i ≤ s.size → Ev (fun k => ascii_Class.l0 k s a s.size i) (clsFrom a t) := by
  induction t with
  | nil =>
    intro i a h hi
    have h1 := drop_nil h
    refine Ev.succ ?_
    simp only [ascii_Class.l0, show ¬ ((i : Int) < (s.size : Int)) from by omega, ↓reduceIte]
    exact Ev.now a
  | cons c t ih =>
    intro i a h _
    obtain ⟨h1, h2, h3⟩ := drop_at h
    refine Ev.succ ?_
    simp only [ascii_Class.l0, show ((i : Int) < (s.size : Int)) from by omega, show (0 : Int) ≤ (i : Int) from by omega, h2, wrap_lt h1 hn, ↓reduceIte]
    refine Ev.bind (ascii_kind_ev c) ?_
    simp only [clsFrom]
    by_cases hk : kind c = 0
    · simp only [hk, ↓reduceIte]; exact Ev.now 0
    · simp only [hk, ↓reduceIte]; exact ih _ _ h3 (by omega)
def enc2 (x y : Bool) : Int := (if x then 1 else 0) + (if y then 2 else 0)
theorem clsFrom_enc : ∀ (t : Str) (x y : Bool), clsFrom (enc2 x y) t = if t.all isAlnum then enc2 (x || t.any isAl) (y || t.any isDg) else 0 := by
  intro t
  induction t with
  | nil => intro x y; simp [clsFrom]
  | cons c t ih =>
    intro x y
    simp only [clsFrom, kind, List.all_cons, List.any_cons, isAlnum]
    have hx : ¬ (isAl c = true ∧ isDg c = true) := by
      simp only [isAl, isUp, isLow, isDg, Bool.or_eq_true, Bool.and_eq_true, decide_eq_true_eq]; omega
    by_cases ha : isAl c = true
    · have hd : isDg c = false := by simpa using fun h => hx ⟨ha, h⟩
      have hb : Go.bits .or .i64 (enc2 x y) 1 = enc2 true y := by cases x <;> cases y <;> decide
      simp only [ha, hd, ↓reduceIte, hb, ih]
      simp [isAlnum]
    · have ha : isAl c = false := by simpa using ha
      by_cases hd : isDg c = true
      · have hb : Go.bits .or .i64 (enc2 x y) 2 = enc2 x true := by cases x <;> cases y <;> decide
        simp only [ha, hd, ↓reduceIte, hb, ih, Bool.false_eq_true]
        simp [isAlnum]
      · have hd : isDg c = false := by simpa using hd
        simp [ha, hd]
theorem cls_enc (s : Str) : clsFrom 0 s = (cls s : Int) := by
  have h := clsFrom_enc s false false
  have h0 : enc2 false false = 0 := by decide
  rw [h0] at h
  rw [h, Bool.false_or, Bool.false_or]
  unfold cls
  cases s with
  | nil => simp [enc2]
  | cons c t =>
    rw [if_neg (show ¬ (c :: t = []) from by simp)]
    by_cases ha : (c :: t).all isAlnum = true
    · rw [if_pos ha, if_pos ha]
      have hall := List.all_eq_true.1 ha
      by_cases h1 : (c :: t).all isAl = true
      · have h2 : (c :: t).any isDg = false := by
          rw [List.any_eq_false]
          intro d hd h3
          have := List.all_eq_true.1 h1 d hd
          simp only [isAl, isUp, isLow, isDg, Bool.or_eq_true, Bool.and_eq_true, decide_eq_true_eq] at this h3; omega
        have h4 : (c :: t).any isAl = true := List.any_eq_true.2 ⟨c, List.mem_cons_self, List.all_eq_true.1 h1 c List.mem_cons_self⟩
        rw [if_pos h1, h2, h4]; rfl
      · rw [if_neg h1]
        have h4 : (c :: t).any isDg = true := by
          have : ∃ d, d ∈ c :: t ∧ ¬ isAl d = true := List.all_eq_false.1 (Bool.eq_false_iff.2 h1)
          obtain ⟨d, hd, hn⟩ := this
          refine List.any_eq_true.2 ⟨d, hd, ?_⟩
          have := hall d hd
          simp only [isAlnum, Bool.or_eq_true] at this
          exact this.resolve_left hn
        by_cases h2 : (c :: t).all isDg = true
        · have h5 : (c :: t).any isAl = false := by
            rw [List.any_eq_false]
            intro d hd h3
            have := List.all_eq_true.1 h2 d hd
            simp only [isAl, isUp, isLow, isDg, Bool.or_eq_true, Bool.and_eq_true, decide_eq_true_eq] at this h3; omega
          rw [if_pos h2, h4, h5]; rfl
        · have : ∃ d, d ∈ c :: t ∧ ¬ isDg d = true := List.all_eq_false.1 (Bool.eq_false_iff.2 h2)
          obtain ⟨d, hd, hn⟩ := this
          have h5 : (c :: t).any isAl = true := by
            refine List.any_eq_true.2 ⟨d, hd, ?_⟩
            have := hall d hd
            simp only [isAlnum, Bool.or_eq_true] at this
            exact this.resolve_right hn
          rw [if_neg h2, h4, h5]; rfl
    · rw [if_neg ha, if_neg ha]; rfl
theorem ascii_Class_ev (s : ByteArray) (hn : s.size ≤ 140737488355328) : Ev (fun k => ascii_Class.f k s) (cls (bl s) : Int) := by
  rw [← cls_enc]
  exact class_l0 s hn (bl s) 0 0 rfl (by omega)

/-! ### what is told of a text by its class -/
def alpha (s : Str) : Bool := decide (cls s = 1)
def digit (s : Str) : Bool := decide (cls s = 2)
def alnum (s : Str) : Bool := decide (cls s ≠ 0)
def isLang (s : Str) : Bool := alpha s && decide (2 ≤ s.length ∧ s.length ≤ 8)
def isExtl (s : Str) : Bool := alpha s && decide (s.length = 3)
def isScr (s : Str) : Bool := alpha s && decide (s.length = 4)
def isReg (s : Str) : Bool := alpha s && decide (s.length = 2) || digit s && decide (s.length = 3)
def isVar (s : Str) : Bool := alnum s && (decide (5 ≤ s.length ∧ s.length ≤ 8) || decide (s.length = 4) && digit (s.take 1))
def isSing (s : Str) : Bool := alnum s && decide (s.length = 1) && decide (low s ≠ [120])
def isSub (s : Str) : Bool := alnum s && decide (s.length ≤ 8)
theorem ascii_Alpha_ev (s : ByteArray) (hn : s.size ≤ 140737488355328) : Ev (fun k => ascii_Alpha.f k s) (alpha (bl s)) := by
  refine Ev.bind (ascii_Class_ev s hn) ?_
  refine Ev.val (Ev.now _) ?_
  unfold alpha; by_cases h : cls (bl s) = 1 <;> simp [h] ; omega
theorem ascii_Digit_ev (s : ByteArray) (hn : s.size ≤ 140737488355328) : Ev (fun k => ascii_Digit.f k s) (digit (bl s)) := by
  refine Ev.bind (ascii_Class_ev s hn) ?_
  refine Ev.val (Ev.now _) ?_
  unfold digit; by_cases h : cls (bl s) = 2 <;> simp [h] ; omega
theorem ascii_Alnum_ev (s : ByteArray) (hn : s.size ≤ 140737488355328) : Ev (fun k => ascii_Alnum.f k s) (alnum (bl s)) := by
  refine Ev.bind (ascii_Class_ev s hn) ?_
  refine Ev.val (Ev.now _) ?_
  unfold alnum; by_cases h : cls (bl s) = 0 <;> simp [h]
theorem tag_long_eq (s : ByteArray) (a b : Int) : tag_long.f s a b = some (decide (a ≤ (bl s).length) && decide (((bl s).length : Int) ≤ b)) := by
  unfold tag_long.f
  rw [bl_len]
  by_cases h : (s.size : Int) ≥ a
  · rw [if_pos h, decide_eq_true (show a ≤ (s.size : Int) from h)]; rfl
  · rw [if_neg h, decide_eq_false (show ¬ a ≤ (s.size : Int) from h)]; rfl
theorem tag_Language_ev (s : ByteArray) (hn : s.size ≤ 140737488355328) : Ev (fun k => tag_Language.f k s) (isLang (bl s)) := by
  refine Ev.bind (ascii_Alpha_ev s hn) ?_
  simp only [tag_long_eq, Option.bind_some]
  unfold isLang
  cases alpha (bl s)
  · exact Ev.now _
  · refine Ev.val (Ev.now _) ?_
    simp only [Bool.true_and, ← Bool.decide_and]
    congr 1; apply propext; omega
theorem tag_Extlang_ev (s : ByteArray) (hn : s.size ≤ 140737488355328) : Ev (fun k => tag_Extlang.f k s) (isExtl (bl s)) := by
  refine Ev.bind (ascii_Alpha_ev s hn) ?_
  unfold isExtl
  cases alpha (bl s)
  · exact Ev.now _
  · refine Ev.val (Ev.now _) ?_
    rw [bl_len]; by_cases h : s.size = 3 <;> simp [h]; omega
theorem tag_Script_ev (s : ByteArray) (hn : s.size ≤ 140737488355328) : Ev (fun k => tag_Script.f k s) (isScr (bl s)) := by
  refine Ev.bind (ascii_Alpha_ev s hn) ?_
  unfold isScr
  cases alpha (bl s)
  · exact Ev.now _
  · refine Ev.val (Ev.now _) ?_
    rw [bl_len]; by_cases h : s.size = 4 <;> simp [h]; omega
theorem tag_Region_ev (s : ByteArray) (hn : s.size ≤ 140737488355328) : Ev (fun k => tag_Region.f k s) (isReg (bl s)) := by
  refine Ev.bind (ascii_Alpha_ev s hn) ?_
  unfold isReg
  have hd : Ev (fun n => (ascii_Digit.f n s).bind fun t105 => if t105 = true then some ((s.size : Int) == 3) else some false) (digit (bl s) && decide ((bl s).length = 3)) := by
    refine Ev.bind (ascii_Digit_ev s hn) ?_
    cases digit (bl s)
    · exact Ev.now _
    · refine Ev.val (Ev.now _) ?_
      rw [bl_len]; by_cases h : s.size = 3 <;> simp [h]; omega
  cases alpha (bl s)
  · simpa using hd
  · by_cases h : s.size = 2
    · simp only [h, bl_len, ↓reduceIte, decide_true, Bool.true_or, Bool.true_and]; exact Ev.now _
    · have h' : ¬ ((s.size : Int) = 2) := by omega
      simp only [h', ↓reduceIte]
      rw [bl_len s]
      simp only [h, decide_false, Bool.and_false, Bool.false_or]
      rw [← bl_len s]; exact hd
theorem tag_Variant_ev (s : ByteArray) (hn : s.size ≤ 140737488355328) : Ev (fun k => tag_Variant.f k s) (isVar (bl s)) := by
  refine Ev.bind (ascii_Alnum_ev s hn) ?_
  unfold isVar
  simp only [tag_long_eq, Option.bind_some]
  cases alnum (bl s)
  · exact Ev.now _
  · have e : (decide ((5 : Int) ≤ (bl s).length) && decide (((bl s).length : Int) ≤ 8)) = decide (5 ≤ (bl s).length ∧ (bl s).length ≤ 8) := by
      rw [← Bool.decide_and]; congr 1; apply propext; omega
    rw [e]
    by_cases h : 5 ≤ (bl s).length ∧ (bl s).length ≤ 8
    · simp only [h, decide_true, ↓reduceIte, Bool.true_or, Bool.true_and, and_self]; exact Ev.now _
    · simp only [h, decide_false, ↓reduceIte, Bool.false_or, Bool.true_and, Bool.false_eq_true]
      rw [bl_len s]
      by_cases h4 : s.size = 4
      · simp only [h4, ↓reduceIte, decide_true, Bool.true_and]
        have he : ((s.extract 0 1).size) ≤ 140737488355328 := by rw [ByteArray.size_extract]; omega
        have := ascii_Digit_ev (s.extract 0 1) he
        rw [bl_extract, List.drop_zero] at this
        simp only [show ((0 : Int) ≤ 1) from by omega, show ((1 : Int) ≤ ((4 : Nat) : Int)) from by omega, show (((4 : Nat) : Int) = 4) from rfl, ↓reduceIte]
        refine Ev.bind this ?_
        exact Ev.now _
      · have h' : ¬ ((s.size : Int) = 4) := by omega
        simp only [h', h4, ↓reduceIte, decide_false, Bool.false_and]; exact Ev.now _

/-! ### cases, comparing -/
theorem lowC_nat (c : UInt8) : (lowC c).toNat = if 65 ≤ c.toNat ∧ c.toNat ≤ 90 then c.toNat + 32 else c.toNat := by
  have := byte_all (fun c => decide ((lowC c).toNat = if 65 ≤ c.toNat ∧ c.toNat ≤ 90 then c.toNat + 32 else c.toNat)) (by decide +kernel) c
  exact of_decide_eq_true this
theorem upC_nat (c : UInt8) : (upC c).toNat = if 97 ≤ c.toNat ∧ c.toNat ≤ 122 then c.toNat - 32 else c.toNat := by
  have := byte_all (fun c => decide ((upC c).toNat = if 97 ≤ c.toNat ∧ c.toNat ≤ 122 then c.toNat - 32 else c.toNat)) (by decide +kernel) c
  exact of_decide_eq_true this
theorem ascii_lower_eq (c : UInt8) : ascii_lower.f (c.toNat : Int) = some ((lowC c).toNat : Int) := by
  have := c.toNat_lt
  unfold ascii_lower.f
  rw [lowC_nat]
  by_cases h : 65 ≤ c.toNat ∧ c.toNat ≤ 90
  · rw [if_pos (by omega), if_pos (by omega), if_pos h]; congr 1; omega
  · rw [if_neg h]; split
    · rw [if_neg (by omega)]
    · rfl
theorem ref_lower_eq (c : UInt8) : isoglossref02_lower.f (c.toNat : Int) = some ((lowC c).toNat : Int) := by
  have := c.toNat_lt
  unfold isoglossref02_lower.f
  rw [lowC_nat]
  by_cases h : 65 ≤ c.toNat ∧ c.toNat ≤ 90
  · rw [if_pos (by omega), if_pos (by omega), if_pos h]; congr 1; omega
  · rw [if_neg h]; split
    · rw [if_neg (by omega)]
    · rfl
theorem ref_upper_eq (c : UInt8) : isoglossref02_upper.f (c.toNat : Int) = some ((upC c).toNat : Int) := by
  have := c.toNat_lt
  unfold isoglossref02_upper.f
  rw [upC_nat]
  by_cases h : 97 ≤ c.toNat ∧ c.toNat ≤ 122
  · rw [if_pos (by omega), if_pos (by omega), if_pos h]; congr 1; omega
  · rw [if_neg h]; split
    · rw [if_neg (by omega)]
    · rfl
/-- Compare's answer, told of lists. -/
def cmpL : Str → Str → Int
  | [], [] => 0
  | [], _ :: _ => -1
  | _ :: _, [] => 1
  | c :: s, d :: t => if c.toNat < d.toNat then -1 else if c.toNat > d.toNat then 1 else cmpL s t
theorem cmpL_zero : ∀ (s t : Str), cmpL s t = 0 ↔ s = t
  | [], [] => by simp [cmpL]
  | [], _ :: _ => by simp [cmpL]
  | _ :: _, [] => by simp [cmpL]
  | c :: s, d :: t => by
    simp only [cmpL, List.cons.injEq]
    by_cases h1 : c.toNat < d.toNat
    · rw [if_pos h1]; simp; rintro rfl; omega
    · by_cases h2 : c.toNat > d.toNat
      · rw [if_neg h1, if_pos h2]; simp; rintro rfl; omega
      · rw [if_neg h1, if_neg h2, cmpL_zero s t]
        have : c = d := UInt8.toNat_inj.1 (by omega)
        simp [this]
theorem ordb (a b : Int) : ascii_order_byte.f a b = some (if a < b then -1 else if a > b then 1 else 0) := by
  unfold ascii_order_byte.f; by_cases h : a < b
  · rw [if_pos h, if_pos h]
  · rw [if_neg h, if_neg h]; by_cases h2 : a > b
    · rw [if_pos h2, if_pos h2]
    · rw [if_neg h2, if_neg h2]
theorem ordi (a b : Int) : ascii_order_int.f a b = some (if a < b then -1 else if a > b then 1 else 0) := by
  unfold ascii_order_int.f; by_cases h : a < b
  · rw [if_pos h, if_pos h]
  · rw [if_neg h, if_neg h]; by_cases h2 : a > b
    · rw [if_pos h2, if_pos h2]
    · rw [if_neg h2, if_neg h2]
theorem cmp_l0 (a b : ByteArray) (ha : a.size ≤ 140737488355328) (hb : b.size ≤ 140737488355328) (s : Str) : ∀ (t : Str) (i : Nat), (bl a).drop i = s → (bl b).drop i = t → i ≤ a.size → i ≤ b.size →
    Ev (fun k => ascii_Compare.l0 k a b (mn a.size b.size) i) (cmpL (low s) (low t)) := by
  induction s with
  | nil =>
    intro t i hs ht h1 h2
    have := drop_nil hs
    refine Ev.succ ?_
    have hm : ¬ ((i : Int) < mn a.size b.size) := by unfold mn; split <;> omega
    simp only [ascii_Compare.l0, hm, ↓reduceIte, ordi, Option.bind_some]
    refine Ev.val (Ev.now _) ?_
    cases t with
    | nil => have := drop_nil ht; rw [if_neg (by omega), if_neg (by omega)]; rfl
    | cons d t => have := (drop_at ht).1; rw [if_pos (by omega)]; rfl
  | cons c s ih =>
    intro t i hs ht h1 h2
    obtain ⟨p1, p2, p3⟩ := drop_at hs
    cases t with
    | nil =>
      have := drop_nil ht
      refine Ev.succ ?_
      have hm : ¬ ((i : Int) < mn a.size b.size) := by unfold mn; split <;> omega
      simp only [ascii_Compare.l0, hm, ↓reduceIte, ordi, Option.bind_some]
      refine Ev.val (Ev.now _) ?_
      rw [if_neg (by omega), if_pos (by omega)]; rfl
    | cons d t =>
      obtain ⟨q1, q2, q3⟩ := drop_at ht
      refine Ev.succ ?_
      have hm : (i : Int) < mn a.size b.size := by unfold mn; split <;> omega
      simp only [ascii_Compare.l0, hm, show (0 : Int) ≤ (i : Int) from by omega, show (i : Int) < (a.size : Int) from by omega, show (i : Int) < (b.size : Int) from by omega, p2, q2, ↓reduceIte, ascii_lower_eq, ordb, Option.bind_some, wrap_lt p1 ha]
      simp only [low, List.map_cons, cmpL]
      have hi := ih t (i + 1) p3 q3 (by omega) (by omega)
      by_cases c1 : (lowC c).toNat < (lowC d).toNat
      · simp only [show ((lowC c).toNat : Int) < (lowC d).toNat from by omega, c1, ↓reduceIte]; exact Ev.now _
      · by_cases c2 : (lowC c).toNat > (lowC d).toNat
        · simp only [show ¬ ((lowC c).toNat : Int) < (lowC d).toNat from by omega, show ((lowC c).toNat : Int) > (lowC d).toNat from by omega, c1, c2, ↓reduceIte]; exact Ev.now _
        · simp only [show ¬ ((lowC c).toNat : Int) < (lowC d).toNat from by omega, show ¬ ((lowC c).toNat : Int) > (lowC d).toNat from by omega, c1, c2, ↓reduceIte]; exact hi
theorem ascii_Compare_ev (a b : ByteArray) (ha : a.size ≤ 140737488355328) (hb : b.size ≤ 140737488355328) : Ev (fun k => ascii_Compare.f k a b) (cmpL (low (bl a)) (low (bl b))) :=
  cmp_l0 a b ha hb _ _ 0 rfl rfl (by omega) (by omega)
/-- Are two the same, whatever their cases? -/
def same (s t : Str) : Bool := decide (low s = low t)
theorem ascii_Same_ev (a b : ByteArray) (ha : a.size ≤ 140737488355328) (hb : b.size ≤ 140737488355328) : Ev (fun k => ascii_Same.f k a b) (same (bl a) (bl b)) := by
  refine Ev.bind (ascii_Compare_ev a b ha hb) ?_
  refine Ev.val (Ev.now _) ?_
  unfold same
  by_cases h : low (bl a) = low (bl b)
  · rw [(cmpL_zero _ _).2 h, h]; simp
  · have := mt (cmpL_zero _ _).1 h
    simp [h, this]
theorem tag_Singleton_ev (s : ByteArray) (hn : s.size ≤ 140737488355328) : Ev (fun k => tag_Singleton.f k s) (isSing (bl s)) := by
  refine Ev.bind (ascii_Alnum_ev s hn) ?_
  unfold isSing
  cases alnum (bl s)
  · exact Ev.now _
  · simp only [↓reduceIte, Bool.true_and, bl_len]
    by_cases h : s.size = 1
    · simp only [h, show (((1 : Nat) : Int) = 1) from rfl, ↓reduceIte, decide_true, Bool.true_and]
      refine Ev.bind (ascii_Same_ev s ⟨#[120]⟩ hn (by decide)) ?_
      refine Ev.val (Ev.now _) ?_
      have e : low (bl ⟨#[120]⟩) = [120] := by decide
      unfold same
      rw [e]
      by_cases h2 : low (bl s) = [120] <;> simp [h2]
    · have h' : ¬ ((s.size : Int) = 1) := by omega
      simp only [h', h, ↓reduceIte, decide_false, Bool.false_and]; exact Ev.now _
end Go.Proofs.Ytljadeeoaoiilaa.Iso
namespace Go.Proofs.Ytljadeeoaoiilaa.Iso
set_option linter.unusedSimpArgs false
set_option linter.unusedVariables false
open Go Go.RowKit Go.Proofs.YtljadeeoaoiilaaW.PrintWords Go.Proofs.Ytljadeeoaoiilaa.P
theorem ref_letter_eq (c : UInt8) : isoglossref02_letter.f (c.toNat : Int) = some (isAl c) := by
  unfold isoglossref02_letter.f isAl isLow isUp
  have := c.toNat_lt
  by_cases h1 : 97 ≤ c.toNat <;> by_cases h2 : c.toNat ≤ 122 <;> by_cases h3 : 65 ≤ c.toNat <;> by_cases h4 : c.toNat ≤ 90 <;>
    first
    | (exfalso; omega)
    | (repeat (first | rw [if_pos (by omega)] | rw [if_neg (by omega)])
       congr 1; simp [h1, h2, h3, h4] <;> omega)
theorem ref_digit_eq (c : UInt8) : isoglossref02_digit.f (c.toNat : Int) = some (isDg c) := by
  unfold isoglossref02_digit.f isDg
  by_cases h1 : 48 ≤ c.toNat <;> by_cases h2 : c.toNat ≤ 57 <;>
    (repeat (first | rw [if_pos (by omega)] | rw [if_neg (by omega)])
     congr 1; simp [h1, h2] <;> omega)
theorem al_dg (c : UInt8) : ¬ (isAl c = true ∧ isDg c = true) := by
  simp only [isAl, isUp, isLow, isDg, Bool.or_eq_true, Bool.and_eq_true, decide_eq_true_eq]; omega
def refFin (s : ByteArray) (a b : Nat) : Int := if bl s = [] ∨ a + b < s.size then 0 else if b = 0 then 1 else if a = 0 then 2 else 3
theorem ref_class_l0 (s : ByteArray) (hn : s.size ≤ 140737488355328) (t : Str) : ∀ (i a b : Nat), (bl s).drop i = t → i ≤ s.size → a + b ≤ i →
    Ev (fun k => isoglossref02_Class.l0 k s a b i) (refFin s (a + t.countP isAl) (b + t.countP isDg)) := by
  induction t with
  | nil =>
    intro i a b h hi hab
    have h1 := drop_nil h
    refine Ev.succ ?_
    simp only [isoglossref02_Class.l0, show ¬ ((i : Int) < (s.size : Int)) from by omega, ↓reduceIte, bl_toList, List.countP_nil, Nat.add_zero]
    have hw : wrap64 ((a : Int) + b) = ((a + b : Nat) : Int) := by unfold wrap64; omega
    have fin : ∀ p : Bool, (p = true ↔ (bl s = [] ∨ a + b < s.size)) → Ev (fun k => isoglossref02_Class.j1 k a b p) (refFin s a b) := by
      intro p hp
      refine Ev.succ ?_
      simp only [isoglossref02_Class.j1]
      unfold refFin
      by_cases hq : bl s = [] ∨ a + b < s.size
      · rw [if_pos hq]; simp only [hp.2 hq, ↓reduceIte]; exact Ev.now _
      · rw [if_neg hq]
        have : p = false := Bool.eq_false_iff.2 fun h => hq (hp.1 h)
        by_cases hb : b = 0
        · subst hb; simp only [this, Bool.false_eq_true, ↓reduceIte, show (((0 : Nat) : Int) = 0) from rfl]; exact Ev.now _
        · by_cases ha : a = 0
          · subst ha; simp only [this, Bool.false_eq_true, ↓reduceIte, show ¬ ((b : Int) = 0) from by omega, hb, show (((0 : Nat) : Int) = 0) from rfl]; exact Ev.now _
          · simp only [this, Bool.false_eq_true, ↓reduceIte, show ¬ ((b : Int) = 0) from by omega, show ¬ ((a : Int) = 0) from by omega, hb, ha]; exact Ev.now _
    by_cases he : bl s = []
    · simp only [he, ↓reduceIte]; exact fin true (by simp [he])
    · simp only [he, ↓reduceIte, hw]
      refine fin _ ?_
      simp only [decide_eq_true_eq, he, false_or]; omega
  | cons c t ih =>
    intro i a b h hi hab
    obtain ⟨h1, h2, h3⟩ := drop_at h
    refine Ev.succ ?_
    simp only [isoglossref02_Class.l0, show ((i : Int) < (s.size : Int)) from by omega, show (0 : Int) ≤ (i : Int) from by omega, h2, wrap_lt h1 hn, ↓reduceIte, ref_letter_eq, ref_digit_eq, Option.bind_some]
    have wa : wrap64 ((a : Int) + 1) = ((a + 1 : Nat) : Int) := by unfold wrap64; omega
    have wb : wrap64 ((b : Int) + 1) = ((b + 1 : Nat) : Int) := by unfold wrap64; omega
    have := al_dg c
    cases ha : isAl c <;> cases hb : isDg c
    · have := ih (i + 1) a b h3 (by omega) (by omega)
      simpa [List.countP_cons, ha, hb] using this
    · have := ih (i + 1) a (b + 1) h3 (by omega) (by omega)
      simp only [List.countP_cons, ha, hb, ↓reduceIte, wb, Bool.false_eq_true, Nat.add_zero]
      rw [show b + (List.countP isDg t + 1) = b + 1 + List.countP isDg t from by omega]; exact this
    · have := ih (i + 1) (a + 1) b h3 (by omega) (by omega)
      simp only [List.countP_cons, ha, hb, ↓reduceIte, wa, Bool.false_eq_true, Nat.add_zero]
      rw [show a + (List.countP isAl t + 1) = a + 1 + List.countP isAl t from by omega]; exact this
    · exact absurd ⟨ha, hb⟩ this

theorem count_two (t : Str) : t.countP isAl + t.countP isDg ≤ t.length ∧ (t.all isAlnum = true ↔ t.countP isAl + t.countP isDg = t.length) ∧ (t.all isAl = true ↔ t.countP isAl = t.length) ∧ (t.all isDg = true ↔ t.countP isDg = t.length) := by
  induction t with
  | nil => simp
  | cons c t ih =>
    obtain ⟨h0, h1, h2, h3⟩ := ih
    have := al_dg c
    have l1 := List.countP_le_length (p := isAl) (l := t)
    have l2 := List.countP_le_length (p := isDg) (l := t)
    simp only [List.all_cons, List.countP_cons, List.length_cons, isAlnum, Bool.and_eq_true, Bool.or_eq_true] at *
    cases ha : isAl c <;> cases hb : isDg c <;> simp only [ha, hb, Bool.false_eq_true, ↓reduceIte, or_self, or_true, true_or, false_and, true_and, false_iff, not_false_eq_true, and_true, true_and] at * <;>
      first
      | (refine ⟨by omega, by omega, by omega, by omega⟩)
      | (refine ⟨by omega, ?_, ?_, ?_⟩ <;> first | omega | (rw [h1]; omega) | (rw [h2]; omega) | (rw [h3]; omega))
      | (exact absurd trivial this)
theorem ref_Class_ev (s : ByteArray) (hn : s.size ≤ 140737488355328) : Ev (fun k => isoglossref02_Class.f k s) (cls (bl s) : Int) := by
  have h := ref_class_l0 s hn (bl s) 0 0 0 rfl (by omega) (by omega)
  refine Ev.val h ?_
  rw [Nat.zero_add, Nat.zero_add]
  unfold refFin cls
  obtain ⟨h0, h1, h2, h3⟩ := count_two (bl s)
  rw [bl_len] at h0 h1 h2 h3
  by_cases he : bl s = []
  · rw [if_pos (.inl he), if_pos he]; rfl
  · rw [if_neg he]
    by_cases ha : (bl s).all isAlnum = true
    · rw [if_pos ha]
      have := h1.1 ha
      rw [if_neg (by simp only [he, false_or]; omega)]
      by_cases hb : (bl s).all isAl = true
      · rw [if_pos hb]; have := h2.1 hb; rw [if_pos (by omega)]; rfl
      · rw [if_neg hb]; have := mt h2.2 hb; rw [if_neg (by omega)]
        by_cases hc : (bl s).all isDg = true
        · rw [if_pos hc]; have := h3.1 hc; rw [if_pos (by omega)]; rfl
        · rw [if_neg hc]; have := mt h3.2 hc; rw [if_neg (by omega)]; rfl
    · rw [if_neg ha]; have := mt h1.2 ha; rw [if_pos (.inr (by omega))]; rfl
theorem ref_letters_ev (s : ByteArray) (hn : s.size ≤ 140737488355328) (a b : Nat) : Ev (fun k => isoglossref06_letters.f k s a b) (alpha (bl s) && decide (a ≤ (bl s).length ∧ (bl s).length ≤ b)) := by
  refine Ev.bind (ref_Class_ev s hn) ?_
  unfold alpha
  by_cases h : cls (bl s) = 1
  · simp only [h, show (((1 : Nat) : Int) = 1) from rfl, ↓reduceIte, decide_true, Bool.true_and, bl_len]
    by_cases h2 : (s.size : Int) ≥ a
    · simp only [h2, ↓reduceIte]
      refine Ev.val (Ev.now _) ?_
      congr 1; apply propext; omega
    · simp only [h2, ↓reduceIte]
      refine Ev.val (Ev.now _) ?_
      symm; rw [decide_eq_false_iff_not]; omega
  · have h' : ¬ ((cls (bl s) : Int) = 1) := by omega
    simp only [h, h', ↓reduceIte, decide_false, Bool.false_and]; exact Ev.now _
theorem ref_Language_ev (s : ByteArray) (hn : s.size ≤ 140737488355328) : Ev (fun k => isoglossref06_Language.f k s) (isLang (bl s)) :=
  Ev.bind (ref_letters_ev s hn 2 8) (Ev.now _)
theorem ref_Extlang_ev (s : ByteArray) (hn : s.size ≤ 140737488355328) : Ev (fun k => isoglossref06_Extlang.f k s) (isExtl (bl s)) :=
  Ev.bind (ref_letters_ev s hn 3 3) (Ev.val (Ev.now _) (by unfold isExtl; congr 2; apply propext; omega))
theorem ref_Script_ev (s : ByteArray) (hn : s.size ≤ 140737488355328) : Ev (fun k => isoglossref06_Script.f k s) (isScr (bl s)) :=
  Ev.bind (ref_letters_ev s hn 4 4) (Ev.val (Ev.now _) (by unfold isScr; congr 2; apply propext; omega))
theorem ref_Region_ev (s : ByteArray) (hn : s.size ≤ 140737488355328) : Ev (fun k => isoglossref06_Region.f k s) (isReg (bl s)) := by
  refine Ev.bind (ref_letters_ev s hn 2 2) ?_
  have e : (alpha (bl s) && decide (2 ≤ (bl s).length ∧ (bl s).length ≤ 2)) = (alpha (bl s) && decide ((bl s).length = 2)) := by congr 2; apply propext; omega
  rw [e]
  unfold isReg
  cases alpha (bl s) && decide ((bl s).length = 2)
  · simp only [Bool.false_eq_true, ↓reduceIte, Bool.false_or, bl_len]
    by_cases h : s.size = 3
    · simp only [h, show (((3 : Nat) : Int) = 3) from rfl, ↓reduceIte, decide_true, Bool.and_true]
      refine Ev.bind (ref_Class_ev s hn) ?_
      refine Ev.val (Ev.now _) ?_
      unfold digit; by_cases h : cls (bl s) = 2 <;> simp [h]; omega
    · have h' : ¬ ((s.size : Int) = 3) := by omega
      simp only [h', h, ↓reduceIte, decide_false, Bool.and_false]; exact Ev.now _
  · exact Ev.now _
theorem take_one {s : Str} {c : UInt8} {t : Str} (h : s = c :: t) : digit (s.take 1) = isDg c := by
  subst h
  unfold digit cls
  have := al_dg c
  simp only [List.take_succ_cons, List.take_zero, List.all_cons, List.all_nil, Bool.and_true, isAlnum]
  cases ha : isAl c <;> cases hb : isDg c <;> simp [ha, hb] at * 
theorem ref_Variant_ev (s : ByteArray) (hn : s.size ≤ 140737488355328) : Ev (fun k => isoglossref06_Variant.f k s) (isVar (bl s)) := by
  refine Ev.bind (ref_Class_ev s hn) ?_
  unfold isVar alnum
  by_cases h : cls (bl s) = 0
  · simp only [h, show (((0 : Nat) : Int) = 0) from rfl, ↓reduceIte]; exact Ev.now _
  · have h' : ¬ ((cls (bl s) : Int) = 0) := by omega
    simp only [h, h', ↓reduceIte, ne_eq, not_false_eq_true, decide_true, Bool.true_and, bl_len]
    by_cases h4 : s.size = 4
    · obtain ⟨c, t, hc⟩ : ∃ c t, bl s = c :: t := by
        cases e : bl s with
        | nil => have := bl_len s; rw [e] at this; simp at this; omega
        | cons c t => exact ⟨c, t, rfl⟩
      have hb := (drop_at (s := s) (i := 0) (c := c) (t := t) hc).2.1
      rw [take_one hc]
      unfold isDg
      simp only [h4, show ¬ (((4 : Nat) : Int) ≥ 5) from by omega, show (((4 : Nat) : Int) = 4) from rfl, show (0 : Int) < ((4 : Nat) : Int) from by omega, ↓reduceIte, show bt s 0 = c.toNat from hb]
      by_cases h5 : (c.toNat : Int) ≥ 48
      · simp only [h5, ↓reduceIte]
        refine Ev.val (Ev.now _) ?_
        have : 48 ≤ c.toNat := by omega
        simp [this]; omega
      · simp only [h5, ↓reduceIte]
        refine Ev.val (Ev.now _) ?_
        have : ¬ 48 ≤ c.toNat := by omega
        simp [this]
    · have h4' : ¬ ((s.size : Int) = 4) := by omega
      simp only [h4, h4', ↓reduceIte, decide_false, Bool.false_and, Bool.or_false]
      by_cases h5 : (s.size : Int) ≥ 5
      · by_cases h8 : (s.size : Int) ≤ 8
        · simp only [h5, h8, ↓reduceIte]; refine Ev.val (Ev.now _) ?_; symm; rw [decide_eq_true_eq]; omega
        · simp only [h5, h8, ↓reduceIte]; refine Ev.val (Ev.now _) ?_; symm; rw [decide_eq_false_iff_not]; omega
      · simp only [h5, ↓reduceIte]; refine Ev.val (Ev.now _) ?_; symm; rw [decide_eq_false_iff_not]; omega
theorem low_x (s : Str) : low s = [120] ↔ (s = [120] ∨ s = [88]) := by
  match s with
  | [] => simp [low]
  | [c] =>
    have := byte_all (fun c => decide (lowC c = 120 ↔ (c = 120 ∨ c = 88))) (by decide +kernel) c
    simpa [low] using of_decide_eq_true this
  | _ :: _ :: _ => simp [low]
theorem ref_Singleton_ev (s : ByteArray) (hn : s.size ≤ 140737488355328) : Ev (fun k => isoglossref06_Singleton.f k s) (isSing (bl s)) := by
  unfold isoglossref06_Singleton.f isSing alnum
  simp only [bl_len, bl_toList]
  by_cases h1 : s.size = 1
  · simp only [h1, show (((1 : Nat) : Int) = 1) from rfl, ↓reduceIte, decide_true, Bool.and_true]
    refine Ev.bind (ref_Class_ev s hn) ?_
    by_cases h : cls (bl s) = 0
    · simp only [h, show ¬ (((0 : Nat) : Int) > 0) from by omega, ↓reduceIte]; exact Ev.now _
    · have h' : ((cls (bl s) : Int) > 0) := by omega
      simp only [h, h', ↓reduceIte, ne_eq, not_false_eq_true, decide_true, Bool.true_and]
      by_cases hx : bl s = [120]
      · simp only [hx, ↓reduceIte]; exact Ev.now _
      · simp only [hx, ↓reduceIte]
        refine Ev.val (Ev.now _) ?_
        by_cases hX : bl s = [88]
        · rw [hX]; decide
        · have : ¬ low (bl s) = [120] := fun h => by rcases (low_x _).1 h with h | h <;> contradiction
          simp [hX, this]
  · have h1' : ¬ ((s.size : Int) = 1) := by omega
    simp only [h1, h1', ↓reduceIte, decide_false, Bool.and_false, Bool.false_and]; exact Ev.now _
/-! ### cases as the document has them -/
theorem strOf (l : Str) : strOfNums (l.map fun c => (c.toNat : Int)) = mk l := by
  unfold strOfNums mk
  congr 2
  rw [List.map_map]
  conv => rhs; rw [← List.map_id l]
  refine List.map_congr_left fun c _ => ?_
  simp
theorem ref_lower_l0 (s : ByteArray) (hn : s.size ≤ 140737488355328) (t : Str) : ∀ (i : Nat) (a : Str), (bl s).drop i = t → a.length = i → i ≤ s.size →
    Ev (fun k => isoglossref02_Lower.l0 k s (a.map fun c => (c.toNat : Int)) i) (mk (a ++ low t)) := by
  induction t with
  | nil =>
    intro i a h ha hi
    have h1 := drop_nil h
    refine Ev.succ ?_
    simp only [isoglossref02_Lower.l0, show ¬ ((i : Int) < (s.size : Int)) from by omega, ↓reduceIte, strOf]
    simp only [low, List.map_nil, List.append_nil]
    exact Ev.now _
  | cons c t ih =>
    intro i a h ha hi
    obtain ⟨h1, h2, h3⟩ := drop_at h
    refine Ev.succ ?_
    have hl : ((a.map fun c => (c.toNat : Int)).length < 140737488355328) := by rw [List.length_map]; omega
    simp only [isoglossref02_Lower.l0, show ((i : Int) < (s.size : Int)) from by omega, show (0 : Int) ≤ (i : Int) from by omega, h2, wrap_lt h1 hn, ↓reduceIte, ref_lower_eq, Option.bind_some, hl]
    have := ih (i + 1) (a ++ [lowC c]) h3 (by simp [ha]) (by omega)
    simpa [low, List.map_append] using this
theorem ref_Lower_ev (s : ByteArray) (hn : s.size ≤ 140737488355328) : Ev (fun k => isoglossref02_Lower.f k s) (mk (low (bl s))) := by
  have := ref_lower_l0 s hn (bl s) 0 [] rfl rfl (by omega)
  rw [List.nil_append] at this
  exact this
theorem ref_upper_l0 (s : ByteArray) (hn : s.size ≤ 140737488355328) (t : Str) : ∀ (i : Nat) (a : Str), (bl s).drop i = t → a.length = i → i ≤ s.size →
    Ev (fun k => isoglossref02_Upper.l0 k s (a.map fun c => (c.toNat : Int)) i) (mk (a ++ up t)) := by
  induction t with
  | nil =>
    intro i a h ha hi
    have h1 := drop_nil h
    refine Ev.succ ?_
    simp only [isoglossref02_Upper.l0, show ¬ ((i : Int) < (s.size : Int)) from by omega, ↓reduceIte, strOf]
    simp only [up, List.map_nil, List.append_nil]
    exact Ev.now _
  | cons c t ih =>
    intro i a h ha hi
    obtain ⟨h1, h2, h3⟩ := drop_at h
    refine Ev.succ ?_
    have hl : ((a.map fun c => (c.toNat : Int)).length < 140737488355328) := by rw [List.length_map]; omega
    simp only [isoglossref02_Upper.l0, show ((i : Int) < (s.size : Int)) from by omega, show (0 : Int) ≤ (i : Int) from by omega, h2, wrap_lt h1 hn, ↓reduceIte, ref_upper_eq, Option.bind_some, hl]
    have := ih (i + 1) (a ++ [upC c]) h3 (by simp [ha]) (by omega)
    simpa [up, List.map_append] using this
theorem ref_Upper_ev (s : ByteArray) (hn : s.size ≤ 140737488355328) : Ev (fun k => isoglossref02_Upper.f k s) (mk (up (bl s))) := by
  have := ref_upper_l0 s hn (bl s) 0 [] rfl rfl (by omega)
  rw [List.nil_append] at this
  exact this
end Go.Proofs.Ytljadeeoaoiilaa.Iso
namespace Go.Proofs.Ytljadeeoaoiilaa.Iso
set_option linter.unusedSimpArgs false
set_option linter.unusedVariables false
open Go Go.RowKit Go.Proofs.YtljadeeoaoiilaaW.PrintWords Go.Proofs.Ytljadeeoaoiilaa.P
theorem ref_Sub_ev (s : ByteArray) (hn : s.size ≤ 140737488355328) : Ev (fun k => isoglossref04_Sub.f k s) (isSub (bl s)) := by
  unfold isoglossref04_Sub.f isSub alnum
  simp only [bl_len]
  by_cases h8 : (s.size : Int) ≤ 8
  · simp only [h8, ↓reduceIte, decide_eq_true (show s.size ≤ 8 from by omega), Bool.and_true]
    refine Ev.bind (ref_Class_ev s hn) ?_
    refine Ev.val (Ev.now _) ?_
    congr 1; apply propext; omega
  · simp only [h8, ↓reduceIte, decide_eq_false (show ¬ s.size ≤ 8 from by omega), Bool.and_false]
    exact Ev.now _
theorem law06_short_eq (s : ByteArray) : isoglosslaw06_short.f s = some (mk ((bl s).take 12)) := by
  unfold isoglosslaw06_short.f
  by_cases h : (s.size : Int) > 12
  · rw [if_pos h, if_pos (by omega), if_pos (by omega)]
    congr 1; apply bl_inj; rw [bl_extract, bl_mk]; simp
  · rw [if_neg h]
    congr 1; apply bl_inj; rw [bl_mk, List.take_of_length_le (by rw [bl_len]; omega)]
theorem law06_awake_ev : Ev (fun k => isoglosslaw06_awake.f k) true := by
  unfold isoglosslaw06_awake.f
  refine Ev.bind (tag_Variant_ev _ (by decide)) ?_
  rw [show isVar (bl ⟨#[49, 57, 57, 52]⟩) = true from by decide]
  refine Ev.bind (tag_Variant_ev _ (by decide)) ?_
  rw [show isVar (bl ⟨#[97, 114, 101, 118]⟩) = false from by decide]
  refine Ev.bind (tag_Region_ev _ (by decide)) ?_
  rw [show isReg (bl ⟨#[52, 49, 57]⟩) = true from by decide]
  exact Ev.now _
theorem law06_kinds_ev (s : ByteArray) (hn : s.size ≤ 140737488355328) : Ev (fun k => isoglosslaw06_kinds.f k s) true := by
  unfold isoglosslaw06_kinds.f
  refine Ev.bind (tag_Language_ev s hn) (Ev.bind (ref_Language_ev s hn) ?_)
  simp only [beq_self_eq_true, ↓reduceIte]
  refine Ev.bind (tag_Extlang_ev s hn) (Ev.bind (ref_Extlang_ev s hn) ?_)
  simp only [beq_self_eq_true, ↓reduceIte]
  refine Ev.bind (tag_Script_ev s hn) (Ev.bind (ref_Script_ev s hn) ?_)
  simp only [beq_self_eq_true, ↓reduceIte]
  refine Ev.bind (tag_Region_ev s hn) (Ev.bind (ref_Region_ev s hn) ?_)
  simp only [beq_self_eq_true, ↓reduceIte]
  refine Ev.bind (tag_Variant_ev s hn) (Ev.bind (ref_Variant_ev s hn) ?_)
  simp only [beq_self_eq_true, ↓reduceIte]
  refine Ev.bind (tag_Singleton_ev s hn) (Ev.bind (ref_Singleton_ev s hn) ?_)
  simp only [beq_self_eq_true]
  exact Ev.now _
theorem take_size (s : Str) (n : Nat) (hn : n ≤ 140737488355328) : (mk (s.take n)).size ≤ 140737488355328 := by
  rw [mk_size, List.length_take]; omega
theorem TagKinds_pure (s : ByteArray) : Ev (fun k => isoglosslaw06_TagKinds.f k s) true := by
  unfold isoglosslaw06_TagKinds.f
  refine Ev.bind law06_awake_ev ?_
  simp only [law06_short_eq, Option.bind_some, ↓reduceIte]
  have h0 := take_size (bl s) 12 (by omega)
  have h1 : (mk (up (bl (mk ((bl s).take 12))))).size ≤ 140737488355328 := by
    rw [mk_size, up, List.length_map, bl_len]; exact h0
  have h2 : (mk (low (bl (mk ((bl s).take 12))))).size ≤ 140737488355328 := by
    rw [mk_size, low, List.length_map, bl_len]; exact h0
  refine Ev.bind (law06_kinds_ev _ h0) ?_
  simp only [↓reduceIte]
  refine Ev.bind (ref_Upper_ev _ h0) (Ev.bind (law06_kinds_ev _ h1) ?_)
  simp only [↓reduceIte]
  exact Ev.bind (ref_Lower_ev _ h0) (Ev.bind (law06_kinds_ev _ h2) (Ev.now _))
/-! ### what is apart -/
theorem cls_alpha {s : Str} (h : cls s = 1) : s.all isAl = true := by
  unfold cls at h; repeat' split at h
  all_goals first | assumption | (exfalso; omega) | simp at h
theorem cls_digit {s : Str} (h : cls s = 2) : s.all isDg = true := by
  unfold cls at h; repeat' split at h
  all_goals first | assumption | (exfalso; omega) | simp at h
theorem cls_first {s : Str} (h : cls s = 1) : digit (s.take 1) = false := by
  cases s with
  | nil => simp [cls] at h
  | cons c t =>
    rw [take_one rfl]
    have := List.all_eq_true.1 (cls_alpha h) c List.mem_cons_self
    have h2 := al_dg c
    cases hd : isDg c
    · rfl
    · exact absurd ⟨this, hd⟩ h2
theorem sing_len {s : Str} (h : isSing s = true) : s.length = 1 ∧ cls s ≠ 0 := by
  simp only [isSing, alnum, Bool.and_eq_true, decide_eq_true_eq] at h
  exact ⟨h.1.2, h.1.1⟩
theorem lang_len {s : Str} (h : isLang s = true) : cls s = 1 ∧ 2 ≤ s.length ∧ s.length ≤ 8 := by
  simpa only [isLang, alpha, Bool.and_eq_true, decide_eq_true_eq] using h
theorem extl_len {s : Str} (h : isExtl s = true) : cls s = 1 ∧ s.length = 3 := by
  simpa only [isExtl, alpha, Bool.and_eq_true, decide_eq_true_eq] using h
theorem scr_len {s : Str} (h : isScr s = true) : cls s = 1 ∧ s.length = 4 := by
  simpa only [isScr, alpha, Bool.and_eq_true, decide_eq_true_eq] using h
theorem reg_len {s : Str} (h : isReg s = true) : (cls s = 1 ∧ s.length = 2) ∨ (cls s = 2 ∧ s.length = 3) := by
  simpa only [isReg, alpha, digit, Bool.and_eq_true, Bool.or_eq_true, decide_eq_true_eq] using h
theorem var_len {s : Str} (h : isVar s = true) : cls s ≠ 0 ∧ ((5 ≤ s.length ∧ s.length ≤ 8) ∨ (s.length = 4 ∧ cls s ≠ 1)) := by
  simp only [isVar, alnum, Bool.and_eq_true, Bool.or_eq_true, decide_eq_true_eq] at h
  refine ⟨h.1, h.2.imp id fun h2 => ⟨h2.1, fun h3 => ?_⟩⟩
  have h4 := h2.2
  rw [cls_first h3] at h4
  cases h4
theorem sub_of {s : Str} (h : cls s ≠ 0) (h2 : s.length ≤ 8) : isSub s = true := by
  simp only [isSub, alnum, Bool.and_eq_true, decide_eq_true_eq]; exact ⟨h, h2⟩
theorem bfalse {b : Bool} (h : b = true → False) : b = false := by cases b; rfl; exact (h rfl).elim
theorem apart_facts (s : Str) :
    (isExtl s = true → isLang s = true ∧ isScr s = false ∧ isReg s = false) ∧ (isScr s = true → isLang s = true ∧ isVar s = false) := by
  refine ⟨fun h => ?_, fun h => ?_⟩
  · have h1 := extl_len h
    refine ⟨?_, bfalse fun h2 => by have := scr_len h2; omega, bfalse fun h2 => by have := reg_len h2; omega⟩
    simp only [isLang, alpha, Bool.and_eq_true, decide_eq_true_eq]; omega
  · have h1 := scr_len h
    refine ⟨?_, bfalse fun h2 => by have := var_len h2; omega⟩
    simp only [isLang, alpha, Bool.and_eq_true, decide_eq_true_eq]; omega
theorem j6_ev (s : ByteArray) {e l c r v : Bool} (hE : Ev (fun k => tag_Extlang.f k s) e) (hL : Ev (fun k => tag_Language.f k s) l) (hC : Ev (fun k => tag_Script.f k s) c) (hR : Ev (fun k => tag_Region.f k s) r) (hV : Ev (fun k => tag_Variant.f k s) v)
    (h1 : e = true → l = true ∧ c = false ∧ r = false) (h2 : c = true → l = true ∧ v = false) (n : Int) (sub some_ : Bool) (h3 : n ≤ 1) (h4 : some_ = true → sub = true) (h5 : some_ = false → n = 0 ∨ sub = true) :
    Ev (fun k => isoglosslaw06_TagApart.j6 k s true n sub some_) true := by
  refine Ev.succ ?_
  simp only [isoglosslaw06_TagApart.j6, h3, ↓reduceIte]
  have core : Ev (fun k => ((tag_Extlang.f k s).bind fun t373 => (if t373 = true then ((tag_Language.f k s).bind fun t374 => (if t374 = true then ((tag_Script.f k s).bind fun t375 => (if t375 = true then (some false) else ((tag_Region.f k s).bind fun t376 => (if t376 = true then (some false) else ((tag_Script.f k s).bind fun t377 => (if t377 = true then ((tag_Language.f k s).bind fun t378 => (if t378 = true then ((tag_Variant.f k s).bind fun t379 => (some (!t379))) else (some false))) else (some true))))))) else (some false))) else ((tag_Script.f k s).bind fun t380 => (if t380 = true then ((tag_Language.f k s).bind fun t381 => (if t381 = true then ((tag_Variant.f k s).bind fun t382 => (some (!t382))) else (some false))) else (some true)))))) true := by
    refine Ev.bind hE ?_
    cases e
    · refine Ev.bind hC ?_
      cases c
      · exact Ev.now _
      · obtain ⟨rfl, rfl⟩ := h2 rfl
        exact Ev.bind hL (Ev.bind hV (Ev.now _))
    · obtain ⟨rfl, rfl, rfl⟩ := h1 rfl
      exact Ev.bind hL (Ev.bind hC (Ev.bind hR (Ev.bind hC (Ev.now _))))
  cases some_
  · rcases h5 rfl with rfl | rfl
    · simp only [Bool.false_eq_true, ↓reduceIte]; exact core
    · simp only [Bool.false_eq_true, ↓reduceIte]
      by_cases h0 : n = 0
      · simp only [h0, ↓reduceIte]; exact core
      · simp only [h0, ↓reduceIte]; exact core
  · have := h4 rfl; subst this
    simp only [↓reduceIte]; exact core

theorem TagApart_pure (s0 : ByteArray) : Ev (fun k => isoglosslaw06_TagApart.f k s0) true := by
  unfold isoglosslaw06_TagApart.f
  refine Ev.bind law06_awake_ev ?_
  simp only [law06_short_eq, Option.bind_some]
  have hn := take_size (bl s0) 12 (by omega)
  generalize mk ((bl s0).take 12) = s at hn
  obtain ⟨f1, f2⟩ := apart_facts (bl s)
  have hl := @lang_len (bl s); have hr := @reg_len (bl s); have hv := @var_len (bl s); have hs := @sing_len (bl s); have hsub := @sub_of (bl s); have hen := @extl_len (bl s); have hcn := @scr_len (bl s)
  have EL := tag_Language_ev s hn; have ER := tag_Region_ev s hn; have EV_ := tag_Variant_ev s hn; have ES := tag_Singleton_ev s hn; have EE := tag_Extlang_ev s hn; have EC := tag_Script_ev s hn; have EK := ref_Class_ev s hn; have EU := ref_Sub_ev s hn
  have hlen := bl_len s
  generalize isLang (bl s) = l at *
  generalize isReg (bl s) = r at *
  generalize isVar (bl s) = v at *
  generalize isSing (bl s) = g at *
  generalize isExtl (bl s) = e at *
  generalize isScr (bl s) = c at *
  generalize cls (bl s) = q at *
  generalize isSub (bl s) = u at *
  have j5 : ∀ n : Int, n ≤ 1 → (n = 0 ∨ (q ≠ 0 ∧ (bl s).length ≤ 8)) → Ev (fun k => isoglosslaw06_TagApart.j5 k s true n) true := by
    intro n h1 h2
    have h5 : n = 0 ∨ u = true := h2.imp id fun h => hsub h.1 h.2
    have key := fun some_ h4 => j6_ev s EE EL EC ER EV_ f1 f2 n u some_ h1 h4 (fun _ => h5)
    refine Ev.succ ?_
    simp only [isoglosslaw06_TagApart.j5]
    refine Ev.bind EU (Ev.bind EE ?_)
    cases e
    · refine Ev.bind EC ?_
      cases c
      · refine Ev.bind ER ?_
        cases r
        · exact Ev.bind EV_ (key v fun h => hsub (hv h).1 (by have := hv h; omega))
        · exact key true fun _ => hsub (by have := hr rfl; omega) (by have := hr rfl; omega)
      · exact key true fun _ => hsub (by have := hcn rfl; omega) (by have := hcn rfl; omega)
    · exact key true fun _ => hsub (by have := hen rfl; omega) (by have := hen rfl; omega)
  have j4 : ∀ n : Int, n ≤ 1 → (n = 0 ∨ (q ≠ 0 ∧ (bl s).length ≤ 8 ∧ 2 ≤ (bl s).length)) → Ev (fun k => isoglosslaw06_TagApart.j4 k s true n) true := by
    intro n h1 h2
    refine Ev.succ ?_
    simp only [isoglosslaw06_TagApart.j4]
    refine Ev.bind ES ?_
    cases g
    · exact j5 n h1 (by omega)
    · have := hs rfl
      have h0 : n = 0 := by omega
      subst h0
      exact j5 _ (by unfold wrap64; omega) (by omega)
  have j2 : ∀ n : Int, n ≤ 1 → (n = 0 ∨ (q ≠ 0 ∧ (bl s).length ≤ 8 ∧ 2 ≤ (bl s).length ∧ (q = 1 ∨ (bl s).length = 3))) → Ev (fun k => isoglosslaw06_TagApart.j2 k s true n) true := by
    intro n h1 h2
    refine Ev.succ ?_
    simp only [isoglosslaw06_TagApart.j2]
    have no : Ev (fun k => isoglosslaw06_TagApart.j3 k s true n false) true := by
      refine Ev.succ ?_
      simp only [isoglosslaw06_TagApart.j3, Bool.false_eq_true, ↓reduceIte]
      exact j4 n h1 (by omega)
    refine Ev.bind EV_ ?_
    cases v
    · exact no
    · refine Ev.bind EK ?_
      have := hv rfl
      by_cases hq : q = 1
      · have : ((q : Int) != 1) = false := by simp [hq]
        simp only [this]; exact no
      · have hb : ((q : Int) != 1) = true := by simp; omega
        simp only [hb]
        have h0 : n = 0 := by omega
        subst h0
        refine Ev.succ ?_
        simp only [isoglosslaw06_TagApart.j3, ↓reduceIte]
        exact j4 _ (by unfold wrap64; omega) (by omega)
  have j0 : ∀ n : Int, n ≤ 1 → (n = 0 ∨ (q = 1 ∧ (bl s).length ≤ 8 ∧ 2 ≤ (bl s).length)) → Ev (fun k => isoglosslaw06_TagApart.j0 k s true n) true := by
    intro n h1 h2
    have no : Ev (fun k => isoglosslaw06_TagApart.j1 k s true n false) true := by
      refine Ev.succ ?_
      simp only [isoglosslaw06_TagApart.j1, Bool.false_eq_true, ↓reduceIte]
      exact j2 n h1 (by omega)
    refine Ev.succ ?_
    simp only [isoglosslaw06_TagApart.j0]
    refine Ev.bind ER ?_
    cases r
    · exact no
    · have := hr rfl
      by_cases h3 : s.size = 3
      · have hb : ((s.size : Int) == 3) = true := by simp [h3]
        simp only [hb, ↓reduceIte]
        have h0 : n = 0 := by omega
        subst h0
        refine Ev.succ ?_
        simp only [isoglosslaw06_TagApart.j1, ↓reduceIte]
        exact j2 _ (by unfold wrap64; omega) (by omega)
      · have hb : ((s.size : Int) == 3) = false := by simp; omega
        simp only [hb, ↓reduceIte]; exact no
  refine Ev.bind EL ?_
  cases l
  · exact j0 0 (by omega) (by omega)
  · have := hl rfl
    exact j0 1 (by omega) (by omega)
end Go.Proofs.Ytljadeeoaoiilaa.Iso
