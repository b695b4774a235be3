/- What the functions of the chapter filter come to, in plain words. Conditions: texts have at most 2^42 bytes. -/
import Derived.Test.YtmkjifljciajbaaDoorEvC

namespace Go.Proofs.YtmkjifljciajbaaDoor.Iso
set_option linter.unusedSimpArgs false
set_option linter.unusedVariables false
open Go Go.RowKit Go.Proofs.YtmkjifljciajbaaDoorW.PrintWords Go.Proofs.YtmkjifljciajbaaDoor.P
def star : Str := [42]
def word (first : Bool) (p : Str) : Bool := decide (p.length ≤ 8) && (alpha p || !first && alnum p)
def word2 (first : Bool) (p : Str) : Bool := decide (p = star) || word first p
def wsG (w : Bool → Str → Bool) : Bool → List Str → Bool
  | _, [] => true
  | b, p :: t => w b p && wsG w false t
def basic (s : Str) : Bool := decide (s = star) || wsG word true (split s)
def ext (s : Str) : Bool := wsG word2 true (split s)
def mat (r t : Str) : Bool := basic r && (decide (r = star) || same r t || (decide (r.length < t.length) && same r (t.take r.length) && decide (t[r.length]? = some 45)))
def seek (r : Str) (k : List Str → Bool) : List Str → Bool
  | [] => false
  | t :: ts => if same r t then k ts else if t.length = 1 then false else seek r k ts
def walk : List Str → List Str → Bool
  | [], _ => true
  | r :: rs, ts => if r = star then walk rs ts else seek r (walk rs) ts
def mext (r t : Str) : Bool := ext r && (match split r with
  | [] => false
  | r0 :: rs => match split t with
    | [] => false
    | t0 :: ts => (decide (r0 = star) || same r0 t0) && walk rs ts)
theorem toList_star (a : ByteArray) : (a.toList = ([42] : List UInt8)) = (bl a = star) := by rw [bl_toList]; rfl
theorem beq_star (a : ByteArray) : (a.toList == ([42] : List UInt8)) = decide (bl a = star) := by
  rw [bl_toList]; by_cases h : bl a = star
  · rw [decide_eq_true h, beq_iff_eq]; exact h
  · rw [decide_eq_false h, beq_eq_false_iff_ne]; exact h
theorem eachGo_all (w : Bool → Str → Bool) : ∀ (s : Str) (a : Nat) (acc : Str), (eachGo a acc s).all (fun x => w (decide (x.1 = 0)) x.2) = wsG w (decide (a = 0)) (sp acc s)
  | [], a, acc => by simp [eachGo, sp, wsG]
  | c :: t, a, acc => by
    unfold eachGo sp
    by_cases h : c = 45
    · rw [if_pos h, if_pos h, List.all_cons, eachGo_all w t]; simp [wsG]
    · rw [if_neg h, if_neg h, eachGo_all w t]
theorem mem_join {p : Str} : ∀ {ps : List Str}, p ∈ ps → p.length ≤ (joinL ps).length ∧ p.length ≤ (tailJ ps).length
  | q :: ps, h => by
    rcases List.mem_cons.1 h with rfl | h
    · simp [joinL, tailJ]; omega
    · have := (mem_join h).2
      simp only [joinL, tailJ, List.length_append, List.length_cons]; omega
theorem split_mem {p s : Str} (h : p ∈ split s) : p.length ≤ s.length := by
  have := (mem_join h).1
  rwa [join_split] at this
theorem eachB_mem {s : ByteArray} {x : Nat × ByteArray} (h : x ∈ eachB s) : x.2.size ≤ s.size := by
  unfold eachB at h
  obtain ⟨y, hy, rfl⟩ := List.mem_map.1 h
  have : y.2 ∈ split (bl s) := List.mem_map.2 ⟨y, hy, rfl⟩
  have := split_mem this
  rwa [bl_len] at this
theorem eachB_all (w : Bool → Str → Bool) (s : ByteArray) : (eachB s).all (fun x => w (decide (x.1 = 0)) (bl x.2)) = wsG w true (split (bl s)) := by
  unfold eachB
  rw [List.all_map, split_sp]
  have := eachGo_all w (bl s) 0 []
  rw [decide_eq_true (rfl : 0 = 0)] at this
  rw [← this]; rfl
theorem split_small {s : ByteArray} (hn : s.size ≤ 4398046511104) : (split (bl s)).length ≤ 140737488355328 ∧ ∀ p ∈ split (bl s), p.length ≤ 140737488355328 := by
  have h1 := split_length (bl s)
  rw [bl_len] at h1
  refine ⟨by omega, fun p hp => ?_⟩
  have h2 := split_mem hp
  rw [bl_len] at h2
  omega
/-! ### matching -/
theorem bt_is {s : ByteArray} {i : Nat} (h : i < s.size) : ∃ c, (bl s)[i]? = some c ∧ bt s i = c.toNat := by
  have hl : i < (bl s).length := by rw [bl_len]; exact h
  refine ⟨(bl s)[i], List.getElem?_eq_getElem hl, ?_⟩
  exact (drop_at (List.drop_eq_getElem_cons hl)).2.1
theorem bt_dash {s : ByteArray} {i : Nat} (h : i < s.size) : (bt s i == 45) = decide ((bl s)[i]? = some 45) := by
  obtain ⟨c, h1, h2⟩ := bt_is h
  rw [h1, h2]
  by_cases hc : c = 45
  · subst hc; rfl
  · rw [decide_eq_false (fun h => hc (Option.some.inj h)), beq_eq_false_iff_ne]
    intro h
    exact hc (UInt8.toNat_inj.1 (by have : (45 : UInt8).toNat = 45 := rfl; omega))
theorem basic_star {s : Str} (h : basic s = false) : ¬ s = star := by
  unfold basic at h
  intro h2
  rw [decide_eq_true h2] at h; simp at h
/-! ### extended matching -/
def Small (ps : List Str) : Prop := ps.length ≤ 140737488355328 ∧ ∀ p ∈ ps, p.length ≤ 140737488355328
theorem Small.tail {p : Str} {ps : List Str} (h : Small (p :: ps)) : Small ps := ⟨by have := h.1; rw [List.length_cons] at this; omega, fun q hq => h.2 q (List.mem_cons_of_mem _ hq)⟩
theorem Small.head {p : Str} {ps : List Str} (h : Small (p :: ps)) : (mk p).size ≤ 140737488355328 := h.2 p List.mem_cons_self
/-! ### what the laws share -/
theorem take40 (s : Str) : (mk (s.take 40)).size ≤ 40 := by rw [mk_size, List.length_take]; omega
theorem size_app (a b : ByteArray) : (a ++ b).size = a.size + b.size := ByteArray.size_append
end Go.Proofs.YtmkjifljciajbaaDoor.Iso
