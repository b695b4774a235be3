/- The law FilterPrefix, in plain words, for every input. Condition: as every argument, texts have at most 2^47 - 4096 bytes. -/
import Derived.Test.YtanahbcdilcmoaaEvF
import Derived.Test.YtanahbcdilcmoaaPx8
namespace Go.Proofs.Ytanahbcdilcmoaa.Iso
set_option linter.unusedSimpArgs false
set_option linter.unusedVariables false
open Go Go.RowKit Go.Proofs.YtanahbcdilcmoaaW.PrintWords Go.Proofs.Ytanahbcdilcmoaa.P
theorem same_refl (s : Str) : same s s = true := decide_eq_true rfl
theorem mat_self (s : Str) : mat s s = basic s := by
  unfold mat
  rw [same_refl]; simp
theorem mat_dash (s t : Str) : mat s (s ++ 45 :: t) = basic s := by
  unfold mat
  rw [List.take_left, same_refl]
  simp
theorem mat_other (s : Str) (c : UInt8) (t : Str) (h : ¬ s = star) (hc : ¬ c = 45) : mat s (s ++ c :: t) = false := by
  unfold mat
  have h1 : same s (s ++ c :: t) = false := by
    refine decide_eq_false fun h => ?_
    have := congrArg List.length h
    rw [low_length, low_length, List.length_append, List.length_cons] at this
    omega
  have h2 : (s ++ c :: t)[s.length]? = some c := by simp
  rw [h1, h2, decide_eq_false h, decide_eq_false (fun h => hc (Option.some.inj h))]
  simp
theorem wsG_take (w : Bool → Str → Bool) : ∀ (b : Bool) (ps : List Str) (i : Nat), wsG w b ps = true → wsG w b (ps.take i) = true
  | _, _, 0, _ => by simp [wsG]
  | _, [], _ + 1, _ => by simp [wsG]
  | b, p :: ps, i + 1, h => by
    simp only [wsG, List.take_succ_cons, Bool.and_eq_true] at h ⊢
    exact ⟨h.1, wsG_take w false ps i h.2⟩
theorem basic_begin {s : Str} (t : Str) (h : basic s = true) {i : Nat} (h1 : 1 ≤ i) (h2 : i < (split s).length) : mat (joinL ((split s).take i)) (s ++ 45 :: t) = true := by
  have hs : ¬ s = star := by
    rintro rfl
    rw [show split star = [star] from by decide, List.length_singleton] at h2; omega
  have hw : wsG word true (split s) = true := by
    unfold basic at h
    rw [decide_eq_false hs, Bool.false_or] at h; exact h
  have hne : (split s).take i ≠ [] := fun hh => by
    have := congrArg List.length hh
    rw [List.length_take, List.length_nil] at this; omega
  have hb : basic (joinL ((split s).take i)) = true := by
    unfold basic
    rw [split_joinL _ hne fun p hp => split_noDash s p (List.mem_of_mem_take hp), wsG_take _ _ _ _ hw, Bool.or_true]
  have hd : (split s).drop i ≠ [] := fun hh => by
    have := List.drop_eq_nil_iff.1 hh; omega
  obtain ⟨p, ps, hp⟩ : ∃ p ps, (split s).drop i = p :: ps := by
    cases hx : (split s).drop i with
    | nil => exact absurd hx hd
    | cons p ps => exact ⟨p, ps, rfl⟩
  have e : s = joinL ((split s).take i) ++ 45 :: (p ++ tailJ ps) := by
    have := joinL_append ((split s).take i) ((split s).drop i) hne
    rw [List.take_append_drop, join_split, hp] at this
    exact this
  have e2 : s ++ 45 :: t = joinL ((split s).take i) ++ 45 :: (p ++ tailJ ps ++ 45 :: t) := by
    conv => lhs; rw [e]
    simp
  rw [e2, mat_dash, hb]
theorem app_dash (s t : ByteArray) : bl ((s ++ (⟨#[45]⟩ : ByteArray)) ++ t) = bl s ++ 45 :: bl t := by
  show ((s ++ (⟨#[45]⟩ : ByteArray)) ++ t).data.toList = _
  rw [ByteArray.data_append, Array.toList_append, ByteArray.data_append, Array.toList_append, List.append_assoc]; rfl
theorem app_bl (s t : ByteArray) : bl (s ++ t) = bl s ++ bl t := by
  show (s ++ t).data.toList = _
  rw [ByteArray.data_append, Array.toList_append]; rfl
theorem prefix_l0 (s t : ByteArray) (hs : s.size ≤ 40) (ht : t.size ≤ 40) (n : Nat) : ∀ i : Nat, 1 ≤ i → (split (bl s)).length = i + n →
    Ev (fun k => isoglosslaw20_FilterPrefix.l0 k s t true (basic (bl s)) ((split (bl s)).map mk) i) true := by
  have hl := split_length (bl s)
  rw [bl_len] at hl
  have hj := join_split (bl s)
  have d1 : (⟨#[45]⟩ : ByteArray).size = 1 := rfl
  have z1 : (s ++ (⟨#[45]⟩ : ByteArray)).size = s.size + 1 := ByteArray.size_append
  have z2 : ((s ++ (⟨#[45]⟩ : ByteArray)) ++ t).size = s.size + 1 + t.size := by rw [ByteArray.size_append, z1]
  induction n with
  | zero =>
    intro i h1 h2
    refine Ev.succ ?_
    simp only [isoglosslaw20_FilterPrefix.l0, List.length_map, show ¬ ((i : Int) < ((split (bl s)).length : Int)) from by omega, ↓reduceIte]
    exact Ev.now _
  | succ n ih =>
    intro i h1 h2
    refine Ev.succ ?_
    have hrec := ih (i + 1) (by omega) (by omega)
    simp only [isoglosslaw20_FilterPrefix.l0, List.length_map, show ((i : Int) < ((split (bl s)).length : Int)) from by omega, show (0 : Int) ≤ (i : Int) from by omega, show ((i : Int) ≤ ((split (bl s)).length : Int)) from by omega, wrap_lt (show i < (split (bl s)).length from by omega) (by omega), ↓reduceIte, Int.toNat_natCast, z1, show s.size + 1 ≤ 9223372036854775807 from by omega, show s.size + 1 + t.size ≤ 9223372036854775807 from by omega]
    cases hb : basic (bl s)
    · rw [hb] at hrec
      simp only [Bool.false_eq_true, ↓reduceIte]; exact hrec
    · rw [hb] at hrec
      simp only [↓reduceIte, ← List.map_take]
      have hlen : (joinL ((split (bl s)).take i)).length ≤ 40 := by
        have := joinL_len_take (split (bl s)) i
        rw [hj, bl_len] at this; omega
      refine Ev.bind (ref_Join_ev _ (by rw [List.length_take]; omega) (by omega)) ?_
      refine Ev.bind (filter_Matches_ev _ _ (by rw [mk_size]; omega) (by rw [z2]; omega)) ?_
      rw [bl_mk, app_dash, basic_begin (bl t) hb h1 (by omega)]
      simp only [↓reduceIte]; exact hrec
theorem prefix_j1 (s t : ByteArray) (hs : s.size ≤ 40) (ht : t.size ≤ 40) : Ev (fun k => isoglosslaw20_FilterPrefix.j1 k s t true (basic (bl s)) false) true := by
  refine Ev.succ ?_
  simp only [isoglosslaw20_FilterPrefix.j1, Bool.false_eq_true, ↓reduceIte]
  refine Ev.bind (ref_Split_ev s (by omega)) ?_
  have h1 : 1 ≤ (split (bl s)).length := by
    cases h : split (bl s) with
    | nil => exact absurd h (split_ne _)
    | cons p ps => rw [List.length_cons]; omega
  exact prefix_l0 s t hs ht ((split (bl s)).length - 1) 1 (by omega) (by omega)
theorem prefix_j0 (s t : ByteArray) (hs : s.size ≤ 40) (ht : t.size ≤ 40) : Ev (fun k => isoglosslaw20_FilterPrefix.j0 k s t true (basic (bl s)) false) true := by
  have hj := prefix_j1 s t hs ht
  refine Ev.succ ?_
  simp only [isoglosslaw20_FilterPrefix.j0, Bool.false_eq_true, ↓reduceIte, toList_star]
  cases hb : basic (bl s)
  · rw [hb] at hj
    simp only [Bool.false_eq_true, ↓reduceIte]; exact hj
  · rw [hb] at hj
    simp only [↓reduceIte]
    by_cases hst : bl s = star
    · simp only [hst, ↓reduceIte]; exact hj
    · simp only [hst, ↓reduceIte]
      have he : (t.toList = ([] : List UInt8)) = (bl t = []) := by rw [bl_toList]
      simp only [he]
      by_cases h0 : bl t = []
      · simp only [h0, ↓reduceIte]; exact hj
      · obtain ⟨c, u, hcu⟩ : ∃ c u, bl t = c :: u := by
          cases hx : bl t with
          | nil => exact absurd hx h0
          | cons c u => exact ⟨c, u, rfl⟩
        have hd := drop_at (s := t) (i := 0) (c := c) (t := u) hcu
        have hbt : bt t 0 = c.toNat := hd.2.1
        simp only [h0, hbt, ↓reduceIte, show (0 < (t.size : Int)) from by omega, show s.size + t.size ≤ 9223372036854775807 from by omega]
        by_cases hc : c = 45
        · have : ((c.toNat : Int) = 45) := by rw [hc]; rfl
          simp only [this, ↓reduceIte]; exact hj
        · have : ¬ ((c.toNat : Int) = 45) := fun h => hc (UInt8.toNat_inj.1 (by have : (45 : UInt8).toNat = 45 := rfl; omega))
          simp only [this, ↓reduceIte]
          refine Ev.bind (filter_Matches_ev s _ (by omega) (by rw [ByteArray.size_append]; omega)) ?_
          rw [app_bl, hcu, mat_other (bl s) c u hst hc]
          exact hj
theorem FilterPrefix_pure (a b : ByteArray) : Ev (fun k => isoglosslaw20_FilterPrefix.f k a b) true := by
  unfold isoglosslaw20_FilterPrefix.f
  refine Ev.bind law20_awake_ev ?_
  simp only [law20_short_eq, Option.bind_some, ↓reduceIte]
  have ha := take40 (bl a); have hb := take40 (bl b)
  generalize mk ((bl a).take 40) = s at *
  generalize mk ((bl b).take 40) = t at *
  have d1 : (⟨#[45]⟩ : ByteArray).size = 1 := rfl
  have z1 : (s ++ (⟨#[45]⟩ : ByteArray)).size = s.size + 1 := ByteArray.size_append
  have z2 : ((s ++ (⟨#[45]⟩ : ByteArray)) ++ t).size = s.size + 1 + t.size := by rw [ByteArray.size_append, z1]
  refine Ev.bind (filter_Basic_ev s (by omega)) ?_
  refine Ev.bind (filter_Matches_ev s s (by omega) (by omega)) ?_
  rw [mat_self]
  simp only [bne_self_eq_false, Bool.false_eq_true, ↓reduceIte, z1, show s.size + 1 ≤ 9223372036854775807 from by omega, show s.size + 1 + t.size ≤ 9223372036854775807 from by omega]
  refine Ev.bind (filter_Matches_ev s _ (by omega) (by rw [z2]; omega)) ?_
  rw [app_dash, mat_dash]
  simp only [bne_self_eq_false]
  exact prefix_j0 s t ha hb
end Go.Proofs.Ytanahbcdilcmoaa.Iso
namespace Go.Proofs.Ytanahbcdilcmoaa.Pure
open Go.RowKit Go.Proofs.Ytanahbcdilcmoaa.P Go.Proofs.YtanahbcdilcmoaaW.PrintWords
theorem FilterPrefix : isoglosslaw20_FilterPrefix.Pure := fun s t _ _ => (Iso.FilterPrefix_pure s t).rounds
end Go.Proofs.Ytanahbcdilcmoaa.Pure
