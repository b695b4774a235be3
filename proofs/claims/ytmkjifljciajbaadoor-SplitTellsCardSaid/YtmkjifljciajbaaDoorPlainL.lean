/- Plain words on trimming texts, on a range's sequence, and on looking up; no program in sight. No condition. -/
import Derived.Test.YtmkjifljciajbaaDoorEvF
namespace Go.Proofs.YtmkjifljciajbaaDoor.Iso
/-! ### trimming: on reversed rows of pieces -/
/-- Pieces of one byte at the end fall off, but for the last one left. -/
def dropR : List Str → List Str
  | [] => []
  | [p] => [p]
  | p :: q :: l => if p.length = 1 then dropR (q :: l) else p :: q :: l
/-- A good row (reversed): it has one piece, or its end is no piece of one byte. -/
def GoodR : List Str → Prop
  | [] => False
  | [_] => True
  | p :: _ :: _ => p.length ≠ 1
theorem dropR_suffix : ∀ l : List Str, dropR l <:+ l
  | [] => List.suffix_refl _
  | [_] => List.suffix_refl _
  | p :: q :: l => by
    unfold dropR
    split
    · exact (dropR_suffix (q :: l)).trans (List.suffix_cons _ _)
    · exact List.suffix_refl _
theorem dropR_good : ∀ l : List Str, l ≠ [] → GoodR (dropR l)
  | [], h => absurd rfl h
  | [_], _ => trivial
  | p :: q :: l, _ => by
    unfold dropR
    split
    · exact dropR_good (q :: l) (by simp)
    · rename_i h; exact h
theorem dropR_keeps : ∀ (l m : List Str), m <:+ l → GoodR m → m <:+ dropR l
  | [], m, h, hg => by rw [List.suffix_nil.1 h] at hg; exact hg.elim
  | [p], m, h, hg => h
  | p :: q :: l, m, h, hg => by
    unfold dropR
    split
    · rename_i h1
      rcases List.suffix_cons_iff.1 h with rfl | h
      · exact absurd h1 hg
      · exact dropR_keeps (q :: l) m h hg
    · exact h
theorem dropR_length (l : List Str) : (dropR l).length ≤ l.length := (dropR_suffix l).length_le
/-- The rows that are looked for, reversed. -/
def iterR : Nat → List Str → List (List Str)
  | 0, _ => []
  | n + 1, l => if l = [] then [] else l :: iterR n (dropR l.tail)
theorem iterR_mem : ∀ (n : Nat) (l m : List Str), l.length ≤ n → (m ∈ iterR n l ↔ m <:+ l ∧ m ≠ [] ∧ (m = l ∨ GoodR m))
  | 0, l, m, hn => by
    obtain rfl : l = [] := List.length_eq_zero_iff.1 (by omega)
    simp only [iterR, List.not_mem_nil, false_iff, not_and]
    intro h h2
    exact absurd (List.suffix_nil.1 h) h2
  | n + 1, l, m, hn => by
    unfold iterR
    cases l with
    | nil =>
      simp only [↓reduceIte, List.not_mem_nil, false_iff, not_and]
      intro h h2
      exact absurd (List.suffix_nil.1 h) h2
    | cons p t =>
      have hne : ¬ (p :: t = []) := by simp
      rw [if_neg hne, List.mem_cons, List.tail_cons]
      have hl : (dropR t).length ≤ n := by have := dropR_length t; rw [List.length_cons] at hn; omega
      rw [iterR_mem n (dropR t) m hl]
      constructor
      · rintro (rfl | ⟨h1, h2, h3⟩)
        · exact ⟨List.suffix_refl _, hne, .inl rfl⟩
        · refine ⟨(h1.trans (dropR_suffix t)).trans (List.suffix_cons _ _), h2, .inr ?_⟩
          rcases h3 with rfl | h3
          · cases t with
            | nil => exact absurd rfl h2
            | cons q t => exact dropR_good _ (by simp)
          · exact h3
      · rintro ⟨h1, h2, h3⟩
        by_cases e : m = p :: t
        · exact .inl e
        · right
          have h4 : GoodR m := h3.resolve_left e
          have h5 : m <:+ t := (List.suffix_cons_iff.1 h1).resolve_left e
          exact ⟨dropR_keeps t m h5 h4, h2, .inr h4⟩
/-! ### trimming a text -/
def trimP (ps : List Str) : List Str := (dropR ps.reverse.tail).reverse
def trim (s : Str) : Str := joinL (trimP (split s))
theorem trimP_prefix (ps : List Str) : trimP ps <+: ps := by
  unfold trimP
  have h := (dropR_suffix ps.reverse.tail).trans (List.tail_suffix _)
  have := List.reverse_prefix.2 h
  rwa [List.reverse_reverse] at this
theorem trimP_length (ps : List Str) : (trimP ps).length ≤ ps.length - 1 := by
  unfold trimP
  have := dropR_length ps.reverse.tail
  rw [List.length_tail, List.length_reverse] at this
  rw [List.length_reverse]; exact this
theorem prefix_join {a ps : List Str} (h : a <+: ps) (ha : a ≠ []) : joinL ps = joinL a ++ tailJ (ps.drop a.length) := by
  obtain ⟨b, rfl⟩ := h
  rw [joinL_append _ _ ha, List.drop_left]
theorem tailJ_head (ps : List Str) (h : ps ≠ []) : ∃ t, tailJ ps = 45 :: t := by
  cases ps with
  | nil => exact absurd rfl h
  | cons p l => exact ⟨_, rfl⟩
theorem prefix_noDash {a : List Str} {s : Str} (h : a <+: split s) : ∀ p ∈ a, noDash p := fun p hp => split_noDash s p (h.subset hp)
/-- A trimmed text is none, or a beginning of the text, up to a dash. -/
theorem trim_spec (s : Str) : trim s = [] ∨ ∃ t, s = trim s ++ 45 :: t := by
  unfold trim
  by_cases h : trimP (split s) = []
  · left; rw [h]; rfl
  · right
    have hp := trimP_prefix (split s)
    have hl := trimP_length (split s)
    have h1 := prefix_join hp h
    rw [join_split] at h1
    have hne := split_ne s
    have hd : (split s).drop (trimP (split s)).length ≠ [] := by
      intro e
      have := List.drop_eq_nil_iff.1 e
      have : 0 < (split s).length := List.length_pos_iff.2 hne
      omega
    obtain ⟨t, ht⟩ := tailJ_head _ hd
    exact ⟨t, by rw [← ht]; exact h1⟩
theorem trim_lt (s : Str) (h : s ≠ []) : (trim s).length < s.length := by
  rcases trim_spec s with e | ⟨t, e⟩
  · rw [e]; exact List.length_pos_iff.2 h
  · have := congrArg List.length e
    rw [List.length_append, List.length_cons] at this
    omega
theorem split_trim (s : Str) (h : trimP (split s) ≠ []) : split (trim s) = trimP (split s) :=
  split_joinL _ h (prefix_noDash (trimP_prefix _))
/-! ### a range's sequence -/
def seqF : Nat → Str → List Str
  | 0, _ => []
  | n + 1, s => if s = [] then [] else s :: seqF n (trim s)
def seq (s : Str) : List Str := seqF s.length s
theorem seqF_more : ∀ (n m : Nat) (s : Str), s.length ≤ n → s.length ≤ m → seqF n s = seqF m s
  | 0, m, s, hn, _ => by
    obtain rfl : s = [] := List.length_eq_zero_iff.1 (by omega)
    cases m with
    | zero => rfl
    | succ m => simp [seqF]
  | n + 1, 0, s, _, hm => by
    obtain rfl : s = [] := List.length_eq_zero_iff.1 (by omega)
    simp [seqF]
  | n + 1, m + 1, s, hn, hm => by
    unfold seqF
    by_cases h : s = []
    · rw [if_pos h, if_pos h]
    · rw [if_neg h, if_neg h]
      have := trim_lt s h
      rw [seqF_more n m (trim s) (by omega) (by omega)]
theorem seq_nil : seq [] = [] := rfl
theorem seq_cons (s : Str) (h : s ≠ []) : seq s = s :: seq (trim s) := by
  have hp : 0 < s.length := List.length_pos_iff.2 h
  have ht := trim_lt s h
  unfold seq
  obtain ⟨n, hn⟩ : ∃ n, s.length = n + 1 := ⟨s.length - 1, by omega⟩
  rw [hn]
  show (if s = [] then [] else s :: seqF n (trim s)) = _
  rw [if_neg h, seqF_more n (trim s).length (trim s) (by omega) (Nat.le_refl _)]
/-- What is looked for is the text, or a beginning of it, up to a dash; and not nothing. -/
theorem seq_spec : ∀ (n : Nat) (s : Str), s.length ≤ n → ∀ x ∈ seq s, x ≠ [] ∧ (x = s ∨ ∃ t, s = x ++ 45 :: t)
  | 0, s, hn, x, hx => by
    obtain rfl : s = [] := List.length_eq_zero_iff.1 (by omega)
    rw [seq_nil] at hx; cases hx
  | n + 1, s, hn, x, hx => by
    by_cases h : s = []
    · subst h; rw [seq_nil] at hx; cases hx
    · rw [seq_cons s h] at hx
      rcases List.mem_cons.1 hx with rfl | hx
      · exact ⟨h, .inl rfl⟩
      · have hl := trim_lt s h
        obtain ⟨h1, h2⟩ := seq_spec n (trim s) (by omega) x hx
        refine ⟨h1, .inr ?_⟩
        rcases trim_spec s with e | ⟨t, e⟩
        · rw [e, seq_nil] at hx; cases hx
        · rcases h2 with rfl | ⟨t2, e2⟩
          · exact ⟨t, e⟩
          · refine ⟨t2 ++ 45 :: t, ?_⟩
            rw [e2] at e
            rw [e]; simp
theorem seq_mem {s x : Str} (h : x ∈ seq s) : x ≠ [] ∧ (x = s ∨ ∃ t, s = x ++ 45 :: t) := seq_spec s.length s (Nat.le_refl _) x h
theorem seq_le {s x : Str} (h : x ∈ seq s) : x.length ≤ s.length := by
  rcases (seq_mem h).2 with rfl | ⟨t, e⟩
  · exact Nat.le_refl _
  · rw [e, List.length_append]; omega
theorem seq_length : ∀ (n : Nat) (s : Str), s.length ≤ n → (seq s).length ≤ n
  | 0, s, hn => by
    obtain rfl : s = [] := List.length_eq_zero_iff.1 (by omega)
    exact Nat.le_refl _
  | n + 1, s, hn => by
    by_cases h : s = []
    · subst h; rw [seq_nil]; simp
    · rw [seq_cons s h, List.length_cons]
      have := seq_length n (trim s) (by have := trim_lt s h; omega)
      omega
/-- Where no piece is empty: the sequence by pieces. -/
theorem seq_pieces : ∀ (n : Nat) (ps : List Str), ps.length ≤ n → (∀ p ∈ ps, noDash p ∧ p ≠ []) → ps ≠ [] → seq (joinL ps) = (iterR n ps.reverse).map (fun m => joinL m.reverse)
  | 0, ps, hn, _, h => absurd (List.length_eq_zero_iff.1 (by omega)) h
  | n + 1, ps, hn, hp, h => by
    have hsp : split (joinL ps) = ps := split_joinL ps h (fun p hq => (hp p hq).1)
    have hj : joinL ps ≠ [] := by
      intro e
      cases ps with
      | nil => exact h rfl
      | cons p l =>
        have := (hp p List.mem_cons_self).2
        simp only [joinL] at e
        exact this (List.append_eq_nil_iff.1 e).1
    have hr : ¬ ps.reverse = [] := by simpa using h
    unfold iterR
    rw [seq_cons _ hj, if_neg hr, List.map_cons, List.reverse_reverse]
    congr 1
    have ht : trim (joinL ps) = joinL (trimP ps) := by unfold trim; rw [hsp]
    rw [ht]
    have hl := trimP_length ps
    by_cases hn0 : trimP ps = []
    · have : dropR ps.reverse.tail = [] := by unfold trimP at hn0; simpa using hn0
      rw [hn0, this]
      cases n <;> simp [iterR, joinL, seq_nil]
    · rw [seq_pieces n (trimP ps) (by omega) (fun p hq => hp p ((trimP_prefix ps).subset hq)) hn0]
      unfold trimP; rw [List.reverse_reverse]
/-! ### looking up -/
def findTag (ts : List Str) (x : Str) : Option Nat := ts.findIdx? fun t => same x t
def lookSeq (ts : List Str) (xs : List Str) : Option Nat := xs.findSome? (findTag ts)
def usable (r : Str) : Bool := basic r && decide (r ≠ star)
def whichI (ts : List Str) : Nat → List Str → Option (Nat × Nat)
  | _, [] => none
  | i, r :: rs => if usable r then (match lookSeq ts (seq r) with
      | some k => some (i, k)
      | none => whichI ts (i + 1) rs) else whichI ts (i + 1) rs
def which (rs ts : List Str) : Option (Nat × Nat) := whichI ts 0 rs
def lookup (rs ts : List Str) (other : Str) : Str := match which rs ts with
  | some (_, k) => ts.getD k []
  | none => other
theorem findTag_some {ts : List Str} {x : Str} {k : Nat} (h : findTag ts x = some k) : ∃ t, ts[k]? = some t ∧ low x = low t := by
  unfold findTag at h
  obtain ⟨hk, h1, _⟩ := List.findIdx?_eq_some_iff_getElem.1 h
  exact ⟨ts[k], List.getElem?_eq_getElem hk, of_decide_eq_true h1⟩
theorem findTag_none {ts : List Str} {x : Str} (h : findTag ts x = none) : ∀ t ∈ ts, low x ≠ low t := by
  unfold findTag at h
  intro t ht e
  have := List.findIdx?_eq_none_iff.1 h t ht
  unfold same at this
  rw [decide_eq_true e] at this
  cases this
theorem findTag_is {ts : List Str} {x : Str} (h : ∃ t ∈ ts, low x = low t) : ∃ k, findTag ts x = some k := by
  cases hf : findTag ts x with
  | some k => exact ⟨k, rfl⟩
  | none =>
    obtain ⟨t, ht, e⟩ := h
    exact absurd e (findTag_none hf t ht)
theorem lookSeq_some {ts xs : List Str} {k : Nat} (h : lookSeq ts xs = some k) : ∃ x ∈ xs, findTag ts x = some k := by
  unfold lookSeq at h
  obtain ⟨x, hx, e⟩ := List.exists_of_findSome?_eq_some h
  exact ⟨x, hx, e⟩
theorem lookSeq_none {ts xs : List Str} : lookSeq ts xs = none ↔ ∀ x ∈ xs, findTag ts x = none := by
  unfold lookSeq
  exact List.findSome?_eq_none_iff
theorem whichI_some : ∀ (ts : List Str) (rs : List Str) (n i k : Nat), whichI ts n rs = some (i, k) →
    n ≤ i ∧ ∃ r, rs[i - n]? = some r ∧ usable r = true ∧ lookSeq ts (seq r) = some k ∧ whichI ts n (rs.take (i - n)) = none ∧ whichI ts 0 (rs.drop (i - n)) = some (0, k)
  | ts, [], n, i, k, h => by simp [whichI] at h
  | ts, r :: rs, n, i, k, h => by
    unfold whichI at h
    have step : whichI ts (n + 1) rs = some (i, k) → (usable r = true → lookSeq ts (seq r) = none) → n ≤ i ∧ ∃ r', (r :: rs)[i - n]? = some r' ∧ usable r' = true ∧ lookSeq ts (seq r') = some k ∧ whichI ts n ((r :: rs).take (i - n)) = none ∧ whichI ts 0 ((r :: rs).drop (i - n)) = some (0, k) := by
      intro h h0
      obtain ⟨h1, r', h2, h3, h4, h5, h6⟩ := whichI_some ts rs (n + 1) i k h
      have e : i - n = i - (n + 1) + 1 := by omega
      refine ⟨by omega, r', ?_, h3, h4, ?_, ?_⟩
      · rw [e, List.getElem?_cons_succ]; exact h2
      · rw [e, List.take_succ_cons]; unfold whichI
        by_cases hu : usable r = true
        · rw [if_pos hu, h0 hu]; exact h5
        · rw [if_neg hu]; exact h5
      · rw [e, List.drop_succ_cons]; exact h6
    by_cases hu : usable r = true
    · rw [if_pos hu] at h
      cases hl : lookSeq ts (seq r) with
      | some k2 =>
        rw [hl] at h
        obtain ⟨rfl, rfl⟩ := Prod.mk.inj (Option.some.inj h)
        refine ⟨Nat.le_refl _, r, ?_, hu, hl, ?_, ?_⟩
        · rw [Nat.sub_self]; rfl
        · rw [Nat.sub_self]; rfl
        · rw [Nat.sub_self, List.drop_zero]; unfold whichI; rw [if_pos hu, hl]
      | none =>
        rw [hl] at h
        exact step h fun _ => hl
    · rw [if_neg hu] at h
      exact step h fun e => absurd e hu
theorem whichI_none : ∀ (ts : List Str) (rs : List Str) (n : Nat), whichI ts n rs = none ↔ ∀ r ∈ rs, usable r = true → lookSeq ts (seq r) = none
  | ts, [], n => by simp [whichI]
  | ts, r :: rs, n => by
    unfold whichI
    rw [List.forall_mem_cons]
    by_cases hu : usable r = true
    · rw [if_pos hu]
      cases hl : lookSeq ts (seq r) with
      | some k => simp [hu]
      | none => simp only [hu, forall_const, true_and]; exact whichI_none ts rs (n + 1)
    · rw [if_neg hu, whichI_none ts rs (n + 1)]; simp [hu]
/-- The tag alone, whatever the ranges' numbers. -/
theorem whichI_snd : ∀ (ts : List Str) (rs : List Str) (n m : Nat), (whichI ts n rs).map (·.2) = (whichI ts m rs).map (·.2)
  | ts, [], n, m => rfl
  | ts, r :: rs, n, m => by
    unfold whichI
    by_cases hu : usable r = true
    · rw [if_pos hu, if_pos hu]
      cases lookSeq ts (seq r) with
      | some k => rfl
      | none => exact whichI_snd ts rs _ _
    · rw [if_neg hu, if_neg hu]; exact whichI_snd ts rs _ _
theorem whichI_skip (ts : List Str) (x : Str) (hx : usable x = false) : ∀ (a b : List Str) (n m : Nat), (whichI ts n (a ++ x :: b)).map (·.2) = (whichI ts m (a ++ b)).map (·.2)
  | [], b, n, m => by
    rw [List.nil_append, List.nil_append]
    conv => lhs; unfold whichI
    rw [if_neg (by rw [hx]; simp)]
    exact whichI_snd ts b _ _
  | r :: a, b, n, m => by
    rw [List.cons_append, List.cons_append]
    unfold whichI
    by_cases hu : usable r = true
    · rw [if_pos hu, if_pos hu]
      cases lookSeq ts (seq r) with
      | some k => rfl
      | none => exact whichI_skip ts x hx a b _ _
    · rw [if_neg hu, if_neg hu]; exact whichI_skip ts x hx a b _ _
theorem lookup_eq (rs ts : List Str) (other : Str) : lookup rs ts other = ((which rs ts).map (·.2)).elim other fun k => ts.getD k [] := by
  unfold lookup
  cases which rs ts <;> rfl
theorem lookup_skip (ts : List Str) (x : Str) (hx : usable x = false) (a b : List Str) (other : Str) : lookup (a ++ x :: b) ts other = lookup (a ++ b) ts other := by
  rw [lookup_eq, lookup_eq]; unfold which; rw [whichI_skip ts x hx a b 0 0]
end Go.Proofs.YtmkjifljciajbaaDoor.Iso
