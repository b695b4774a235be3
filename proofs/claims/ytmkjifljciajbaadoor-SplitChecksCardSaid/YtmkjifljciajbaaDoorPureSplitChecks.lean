/- The law SplitChecks, in plain words. No condition. -/
import Derived.Test.YtmkjifljciajbaaDoorEvS
import Derived.Test.YtmkjifljciajbaaDoorPx8
namespace Go.Proofs.YtmkjifljciajbaaDoor.Iso
set_option linter.unusedSimpArgs false
set_option linter.unusedVariables false
open Go Go.RowKit Go.Proofs.YtmkjifljciajbaaDoorW.PrintWords Go.Proofs.YtmkjifljciajbaaDoor.P
/-- The kind's number of what Check tells. -/
def ckn (s : Str) : Int := if (split s).all isSub then 0 else 10
theorem find_pieces (s : ByteArray) : ((eachB s).find? fun x => !isSub (bl x.2)) = none ↔ (split (bl s)).all isSub = true := by
  rw [List.find?_eq_none, List.all_eq_true]
  unfold eachB split
  constructor
  · intro h p hp
    obtain ⟨y, hy, rfl⟩ := List.mem_map.1 hp
    have := h (y.1, mk y.2) (List.mem_map.2 ⟨y, hy, rfl⟩)
    rw [bl_mk] at this
    simpa using this
  · intro h x hx
    obtain ⟨y, hy, rfl⟩ := List.mem_map.1 hx
    have := h y.2 (List.mem_map.2 ⟨y, hy, rfl⟩)
    show ¬ (!isSub (bl (mk y.2))) = true
    rw [bl_mk, this]; decide
theorem Kd_ev (s : Str) (hn : s.length ≤ 140737488355328) : Ev (fun k => split_Check.f k (mk s)) (ckn s) := by
  unfold split_Check.f
  refine Ev.bind (Check_ev (mk s) hn) ?_
  have h := find_pieces (mk s)
  rw [bl_mk] at h
  unfold ckn
  cases hf : ((eachB (mk s)).find? fun x => !isSub (bl x.2)) with
  | none => rw [if_pos (h.1 hf)]; exact Ev.now _
  | some x =>
    rw [if_neg (fun e => by rw [h.2 e] at hf; cases hf)]
    exact Ev.now _
theorem ckn_piece {p : Str} (h : noDash p) : ckn p = if isSub p then 0 else 10 := by
  unfold ckn
  rw [split_one h]
  simp
theorem ckn_eq (s : Str) : (ckn s == 0) = (split s).all isSub := by
  unfold ckn
  cases (split s).all isSub <;> rfl
theorem isSub_len {p : Str} (h : isSub p = true) : p.length ≤ 8 := by
  unfold isSub at h
  simp only [Bool.and_eq_true, decide_eq_true_eq] at h
  exact h.2
theorem checks_l0 (A B : Str) (ha : A.length ≤ 60) (hb : B.length ≤ 60) (ps : List Str) (hps : ps.length ≤ 100) (hd : ∀ p ∈ ps, noDash p ∧ p.length ≤ 60) (t : List Str) : ∀ (i : Nat) (x : Bool), ps.drop i = t → i ≤ ps.length →
    (x && t.all isSub) = (split A).all isSub → Ev (fun k => isoglosslaw04_SplitChecks.l0 k (mk A) (mk B) true (ps.map mk) x (i : Int)) true := by
  induction t with
  | nil =>
    intro i x h h2 hx
    have g := List.drop_eq_nil_iff.1 h
    refine Ev.succ ?_
    simp only [isoglosslaw04_SplitChecks.l0, List.length_map, show ¬ ((i : Int) < (ps.length : Int)) from by omega, ↓reduceIte]
    refine Ev.bind (Kd_ev A (by omega)) ?_
    refine Ev.bind (Kd_ev B (by omega)) ?_
    have hx2 : x = (split A).all isSub := by simpa using hx
    subst hx2
    simp only [ckn_eq, beq_self_eq_true, ↓reduceIte]
    have hj : split_Join.f [mk A, mk B] = some (mk (joinL [A, B])) := small_join [A, B] (by simp [joinL, tailJ]; omega) (by simp)
    simp only [hj, Option.bind_some]
    have hjl : (joinL [A, B]) = A ++ 45 :: B := by simp [joinL, tailJ]
    rw [hjl]
    refine Ev.bind (Kd_ev (A ++ 45 :: B) (by simp; omega)) ?_
    rw [ckn_eq, split_append, List.all_append]
    by_cases c : ckn A = 0
    · rw [if_pos c]
      have : (split A).all isSub = true := by rw [← ckn_eq, c]; rfl
      rw [this, Bool.true_and, beq_self_eq_true]; exact Ev.now _
    · rw [if_neg c]
      have : (split A).all isSub = false := by rw [← ckn_eq]; exact beq_eq_false_iff_ne.2 c
      rw [this, Bool.false_and]; exact Ev.now _
  | cons p t ih =>
    intro i x h h2 hx
    have hl := congrArg List.length h
    rw [List.length_drop, List.length_cons] at hl
    have hi : i < ps.length := by omega
    have hdr : ps.drop (i + 1) = t := by rw [← List.drop_drop, h]; rfl
    have hp : ps[i]? = some p := by
      have := List.getElem?_drop (xs := ps) (i := i) (j := 0)
      rw [h] at this; simpa using this.symm
    have hm : p ∈ ps := List.mem_of_getElem? hp
    have eg := getMk ps i p hp
    have hw : wrap64 ((i : Int) + 1) = ((i + 1 : Nat) : Int) := by unfold wrap64; omega
    refine Ev.succ ?_
    simp only [isoglosslaw04_SplitChecks.l0, List.length_map, show ((i : Int) < (ps.length : Int)) from by omega, show (0 : Int) ≤ (i : Int) from by omega, eg, hw, mk_size, ↓reduceIte]
    rw [List.all_cons] at hx
    cases x with
    | false =>
      simp only [Bool.false_eq_true, ↓reduceIte]
      exact ih (i + 1) false hdr (by omega) (by simpa using hx)
    | true =>
      simp only [↓reduceIte]
      refine Ev.bind (Kd_ev p (by have := (hd p hm).2; omega)) ?_
      rw [ckn_piece (hd p hm).1]
      cases hs : isSub p with
      | false =>
        rw [hs] at hx
        simp only [Bool.false_eq_true, ↓reduceIte, show ¬ ((10 : Int) = 0) from by decide]
        exact ih (i + 1) false hdr (by omega) (by simpa using hx)
      | true =>
        rw [hs] at hx
        simp only [↓reduceIte]
        rw [decide_eq_true (by have := isSub_len hs; omega)]
        exact ih (i + 1) true hdr (by omega) (by simpa using hx)
theorem SplitChecks_plain (a b : ByteArray) : Ev (fun k => isoglosslaw04_SplitChecks.f k a b) true := by
  unfold isoglosslaw04_SplitChecks.f
  refine Ev.bind law04_awake_ev ?_
  simp only [law04_short_eq, Option.bind_some]
  have ha := take60 (bl a)
  have hb := take60 (bl b)
  generalize (bl a).take 60 = A at *
  generalize (bl b).take 60 = B at *
  have hA := split_length A
  simp only [split_mk A (by omega), Option.bind_some]
  refine checks_l0 A B ha hb (split A) (by omega) (fun p hp => ⟨split_noDash A p hp, ?_⟩) (split A) 0 true rfl (by omega) (by simp)
  have := (mem_join hp).1
  rw [join_split] at this
  omega
end Go.Proofs.YtmkjifljciajbaaDoor.Iso
namespace Go.Proofs.YtmkjifljciajbaaDoor.Pure
open Go.RowKit Go.Proofs.YtmkjifljciajbaaDoor.P Go.Proofs.YtmkjifljciajbaaDoorW.PrintWords
theorem SplitChecks : isoglosslaw04_SplitChecks.Pure := fun a b _ _ => (Iso.SplitChecks_plain a b).rounds
end Go.Proofs.YtmkjifljciajbaaDoor.Pure
