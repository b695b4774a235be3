/- The law RenderPrivate, in plain words, for every input. Condition: as every argument, the text has at most 2^47 - 4096 bytes. -/
import Derived.Test.YtojglflamecnkaaEvR
import Derived.Test.YtojglflamecnkaaPx4
namespace Go.Proofs.Ytojglflamecnkaa.Iso
set_option linter.unusedSimpArgs false
set_option linter.unusedVariables false
open Go Go.RowKit Go.Proofs.YtojglflamecnkaaW.PrintWords Go.Proofs.Ytojglflamecnkaa.P
def one (p : Str) : Bool := decide (p.length = 1)
theorem cR_get : ∀ (ps : List Str) (s f : Bool) (i : Nat) (p : Str), ps[i]? = some p → (cR s f ps)[i]? = some (c1 ((s || (ps.take i).any one) || one p) (f && decide (i = 0)) p)
  | [], _, _, _, _, h => by simp at h
  | q :: ps, s, f, 0, p, h => by
    obtain rfl : q = p := by simpa using h
    simp [cR, one]
  | q :: ps, s, f, i + 1, p, h => by
    have h' : ps[i]? = some p := by simpa using h
    have := cR_get ps (s || decide (q.length = 1)) false i p h'
    simp only [cR, List.getElem?_cons_succ, this, List.take_succ_cons, List.any_cons, one]
    simp [Bool.or_assoc]
theorem up_of_low (p : Str) : up (low p) = up p := by
  unfold low up
  rw [List.map_map]
  refine List.map_congr_left fun c _ => ?_
  exact of_decide_eq_true (byte_all (fun c => decide (upC (lowC c) = upC c)) (by decide +kernel) c)
theorem title_tail (p : Str) : (title (low p)).drop 1 = (low p).drop 1 := by
  cases p with
  | nil => rfl
  | cons c t =>
    have := low_low t
    unfold low at this ⊢
    simp only [List.map_cons, title, List.drop_succ_cons, List.drop_zero]
    exact this
theorem title_head (p : Str) : (title (low p)).take 1 = up ((low p).take 1) := by
  cases p with
  | nil => rfl
  | cons c t => simp [low, title, up]
theorem private_l0 (ps : List Str) (hn : ps.length ≤ 100) (hs : ∀ p ∈ ps, p.length ≤ 100) (q : List Str) : ∀ i : Nat, ps.drop i = q → i ≤ ps.length →
    Ev (fun k => isoglosslaw08_RenderPrivate.l0 k true (ps.map mk) ((cR false true ps).map mk) ((ps.take i).any one) (i : Int)) true := by
  have hlen : (cR false true ps).length = ps.length := by
    have := congrArg List.length (cR_low false true ps)
    rwa [List.length_map, List.length_map] at this
  induction q with
  | nil =>
    intro i h h2
    have g := List.drop_eq_nil_iff.1 h
    refine Ev.succ ?_
    simp only [isoglosslaw08_RenderPrivate.l0, List.length_map, show ¬ ((i : Int) < (ps.length : Int)) from by omega, ↓reduceIte]
    exact Ev.now _
  | cons p q ih =>
    intro i h h2
    have hl := congrArg List.length h
    rw [List.length_drop, List.length_cons] at hl
    have hi : i < ps.length := by omega
    have hp : ps[i]? = some p := by
      have := congrArg (·[0]?) h
      simpa using this
    have hd : ps.drop (i + 1) = q := by rw [← List.drop_drop, h]; rfl
    have hps : p.length ≤ 100 := hs p (List.mem_of_getElem? hp)
    have eL := getMk ps i p hp
    have hc := cR_get ps false true i p hp
    rw [Bool.false_or, Bool.true_and] at hc
    have eM := getMk (cR false true ps) i _ hc
    have hrec := ih (i + 1) hd (by omega)
    have ht : (ps.take (i + 1)).any one = ((ps.take i).any one || one p) := by rw [List.take_add_one, hp, List.any_append]; simp
    rw [ht] at hrec
    have ez : ((((mk p).size : Int)) == 1) = one p := by
      rw [mk_size]; unfold one
      by_cases h1 : p.length = 1
      · simp [h1]
      · rw [decide_eq_false h1, beq_eq_false_iff_ne]; omega
    generalize (ps.take i).any one = s at hc eM hrec ⊢
    have wi := wrap_lt (show i < ps.length from hi) (by omega)
    have hlo : (mk (low p)).size = p.length := by rw [mk_size, low_length]
    -- j2, where the piece is not great
    have small : c1 (s || one p) (decide (i = 0)) p = low p → Ev (fun k => isoglosslaw08_RenderPrivate.j2 k true (ps.map mk) ((cR false true ps).map mk) (s || one p) (i : Int) (mk (low p)) false) true := by
      intro e
      refine Ev.succ ?_
      simp only [isoglosslaw08_RenderPrivate.j2, Bool.false_eq_true, ↓reduceIte, List.length_map, show (0 : Int) ≤ (i : Int) from by omega, show ((i : Int) < ((cR false true ps).length : Int)) from by omega, eM, e, mk_toList, wi]
      exact hrec
    have core : Ev (fun k => isoglosslaw08_RenderPrivate.j1 k true (ps.map mk) ((cR false true ps).map mk) (s || one p) (i : Int)) true := by
      refine Ev.succ ?_
      simp only [isoglosslaw08_RenderPrivate.j1, List.length_map, show (0 : Int) ≤ (i : Int) from by omega, show ((i : Int) < (ps.length : Int)) from by omega, eL, ↓reduceIte]
      refine Ev.bind (ref_Lower_ev (mk p) (by rw [mk_size]; omega)) ?_
      rw [bl_mk]
      by_cases h0 : i = 0
      · simp only [show ¬ ((i : Int) > 0) from by omega, ↓reduceIte]
        exact small (by simp [c1, h0])
      · simp only [show ((i : Int) > 0) from by omega, ↓reduceIte]
        cases hso : (s || one p)
        · rw [hso] at small hrec eM
          simp only [Bool.false_eq_true, ↓reduceIte, hlo]
          by_cases l2 : p.length = 2
          · have e : c1 false (decide (i = 0)) p = up (low p) := by simp [c1, h0, l2]
            simp only [show ((p.length : Int) = 2) from by omega, ↓reduceIte]
            refine Ev.succ ?_
            simp only [isoglosslaw08_RenderPrivate.j2, ↓reduceIte, List.length_map, hlo, show ((p.length : Int) = 2) from by omega, show ¬ ((p.length : Int) = 4) from by omega, show (0 : Int) ≤ (i : Int) from by omega, show ((i : Int) < ((cR false true ps).length : Int)) from by omega, show ((i : Int) < (ps.length : Int)) from by omega, eM, e, eL, wi]
            refine Ev.bind (ref_Upper_ev (mk p) (by rw [mk_size]; omega)) ?_
            simp only [bl_mk, mk_toList, up_of_low, ↓reduceIte]
            exact hrec
          · simp only [show ¬ ((p.length : Int) = 2) from by omega, ↓reduceIte]
            by_cases l4 : p.length = 4
            · have e : c1 false (decide (i = 0)) p = title (low p) := by simp [c1, h0, l4]
              have e4 : (((p.length : Int)) == 4) = true := by simp [l4]
              rw [e4]
              refine Ev.succ ?_
              have tl : (mk (title (low p))).size = p.length := by rw [mk_size, title_length, low_length]
              have x1 : ((mk (title (low p))).extract 1 p.length).toList = (low p).drop 1 := by
                rw [bl_toList, bl_extract, bl_mk, List.take_of_length_le (by rw [List.length_drop, title_length, low_length]; exact Nat.le_refl _), title_tail]
              have x2 : ((mk (low p)).extract 1 p.length).toList = (low p).drop 1 := by
                rw [bl_toList, bl_extract, bl_mk, List.take_of_length_le (by rw [List.length_drop, low_length]; exact Nat.le_refl _)]
              have x3 : ((mk (title (low p))).extract 0 1).toList = up ((low p).take 1) := by
                rw [bl_toList, bl_extract, bl_mk, List.drop_zero, title_head]
              have x4 : bl ((mk (low p)).extract 0 1) = (low p).take 1 := by rw [bl_extract, bl_mk, List.drop_zero]
              simp only [isoglosslaw08_RenderPrivate.j2, ↓reduceIte, List.length_map, hlo, tl, show ¬ ((p.length : Int) = 2) from by omega, show ((p.length : Int) = 4) from by omega, show (1 : Int) ≤ (p.length : Int) from by omega, show (0 : Int) ≤ 1 from by omega, show (1 : Int) ≤ 4 from by omega, show (0 : Int) ≤ (i : Int) from by omega, show ((i : Int) < ((cR false true ps).length : Int)) from by omega, show ((i : Int) < (ps.length : Int)) from by omega, eM, e, eL, wi, x1, x2, x3]
              refine Ev.bind (ref_Upper_ev _ (by rw [ByteArray.size_extract]; omega)) ?_
              simp only [x4, mk_toList, ↓reduceIte]
              exact hrec
            · have e4 : (((p.length : Int)) == 4) = false := by simp; omega
              rw [e4]
              exact small (by simp [c1, h0, l2, l4])
        · rw [hso] at small
          simp only [↓reduceIte]
          exact small (by simp [c1])
    refine Ev.succ ?_
    simp only [isoglosslaw08_RenderPrivate.l0, List.length_map, show ((i : Int) < (ps.length : Int)) from by omega, show (0 : Int) ≤ (i : Int) from by omega, eL, ez, ↓reduceIte]
    cases s
    · simp only [Bool.false_eq_true, ↓reduceIte]; rw [Bool.false_or] at core; exact core
    · simp only [↓reduceIte]; rw [Bool.true_or] at core; exact core
theorem RenderPrivate_pure (a : ByteArray) : Ev (fun k => isoglosslaw08_RenderPrivate.f k a) true := by
  unfold isoglosslaw08_RenderPrivate.f
  simp only [law08_awake_eq, law08_short_eq, Option.bind_some]
  have ha := take80 (bl a)
  generalize mk ((bl a).take 80) = s at *
  have hc : (mk (caseS (bl s))).size ≤ 80 := by rw [mk_size, caseS_length, bl_len]; exact ha
  refine Ev.bind (ref_Split_ev s (by omega)) ?_
  simp only [case_eq s (by omega), Option.bind_some]
  have h2 := ref_Split_ev (mk (caseS (bl s))) (by omega)
  rw [bl_mk, split_caseS] at h2
  refine Ev.bind h2 ?_
  have hl := split_length (bl s)
  rw [bl_len] at hl
  have hlen : (cR false true (split (bl s))).length = (split (bl s)).length := by
    have := congrArg List.length (cR_low false true (split (bl s)))
    rwa [List.length_map, List.length_map] at this
  simp only [List.length_map, hlen, ↓reduceIte]
  refine private_l0 (split (bl s)) (by omega) (fun p hp => ?_) _ 0 rfl (by omega)
  have h5 : p ∈ split (bl s) := hp
  have : ∀ ps : List Str, p ∈ ps → p.length ≤ (joinL ps).length ∧ p.length ≤ (tailJ ps).length := by
    intro ps
    induction ps with
    | nil => intro h; cases h
    | cons q ps ih =>
      intro h
      rcases List.mem_cons.1 h with rfl | h
      · simp [joinL, tailJ]; omega
      · have := (ih h).2
        simp only [joinL, tailJ, List.length_append, List.length_cons]; omega
  have := (this _ h5).1
  rw [join_split, bl_len] at this
  omega
end Go.Proofs.Ytojglflamecnkaa.Iso
namespace Go.Proofs.Ytojglflamecnkaa.Pure
open Go.RowKit Go.Proofs.Ytojglflamecnkaa.P Go.Proofs.YtojglflamecnkaaW.PrintWords
theorem RenderPrivate : isoglosslaw08_RenderPrivate.Pure := fun s _ => (Iso.RenderPrivate_pure s).rounds
end Go.Proofs.Ytojglflamecnkaa.Pure
