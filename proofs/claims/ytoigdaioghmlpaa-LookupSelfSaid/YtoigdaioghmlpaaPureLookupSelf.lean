/- The law LookupSelf, in plain words: a range that is a tag is looked up as that, whatever its case; a tag that is longer than the range is never. No condition. -/
import Derived.Test.YtoigdaioghmlpaaEvL
import Derived.Test.YtoigdaioghmlpaaPx9
namespace Go.Proofs.Ytoigdaioghmlpaa.Iso
set_option linter.unusedSimpArgs false
open Go Go.RowKit Go.Proofs.YtoigdaioghmlpaaW.PrintWords Go.Proofs.Ytoigdaioghmlpaa.P
def none5 : Str := [110, 111, 110, 101, 33]
theorem wsG_up : ∀ (f : Bool) (ps : List Str), wsG word f (ps.map up) = wsG word f ps
  | _, [] => rfl
  | f, p :: ps => by
    simp only [List.map_cons, wsG, wsG_up]
    congr 1
    unfold word alpha alnum
    rw [cls_up, up_length]
theorem up_star (s : Str) : (up s = star) = (s = star) := by
  apply propext
  constructor
  · intro h
    cases s with
    | nil => simp [up, star] at h
    | cons c t =>
      cases t with
      | cons d t => simp [up, star] at h
      | nil =>
        simp only [up, star, List.map_cons, List.map_nil, List.cons.injEq, and_true] at h ⊢
        have := byte_all (fun c => decide (upC c = 42 → c = 42)) (by decide +kernel) c
        exact of_decide_eq_true this h
  · rintro rfl; decide
theorem usable_up (s : Str) : usable (up s) = usable s := by
  unfold usable basic
  rw [split_up, wsG_up]
  simp only [up_star, ne_eq]
theorem usable_ne {s : Str} (h : usable s = true) : s ≠ [] := by
  rintro rfl
  revert h; decide
theorem lookup_no {r : Str} (h : usable r = false) (ts : List Str) (o : Str) : lookup [r] ts o = o := by
  unfold lookup which whichI
  rw [h]; rfl
theorem lookup_one {r : Str} (h : usable r = true) (ts : List Str) (o : Str) : lookup [r] ts o = (lookSeq ts (seq r)).elim o fun k => ts.getD k [] := by
  unfold lookup which whichI
  rw [h]
  cases lookSeq ts (seq r) <;> rfl
theorem LookupSelf_pure (a : List ByteArray) (n : Int) (m : ByteArray) : Ev (fun k => isoglosslaw21_LookupSelf.f k a n m) true := by
  unfold isoglosslaw21_LookupSelf.f
  refine Ev.bind law21_awake_ev ?_
  refine Ev.bind (Few_ev a 8 (by omega)) ?_
  have ft : Fits 1000000 (cut40 8 a) := ⟨by have := (cut40_fits 8 a).1; omega, (cut40_fits 8 a).2⟩
  have f40 : ∀ p ∈ cut40 8 a, p.length ≤ 40 := fun p hp => by
    unfold cut40 at hp
    obtain ⟨q, _, rfl⟩ := List.mem_map.1 hp
    rw [List.length_take]; omega
  generalize cut40 8 a = t at *
  simp only [law21_short_eq, Option.bind_some]
  have hu : ((bl m).take 40).length ≤ 40 := by rw [List.length_take]; omega
  generalize (bl m).take 40 = u at *
  have nn : (⟨#[110, 111, 110, 101, 33]⟩ : ByteArray) = mk none5 := rfl
  have htn : ∀ s : Str, ((mk s).toList = ([110, 111, 110, 101, 33] : List UInt8)) = (s = none5) := fun s => by rw [bl_toList, bl_mk]; rfl
  have hbn : ∀ s : Str, ((mk s).toList == ([110, 111, 110, 101, 33] : List UInt8)) = decide (s = none5) := fun s => by
    rw [bl_toList, bl_mk]; by_cases h : s = none5
    · rw [decide_eq_true h, h]; rfl
    · rw [decide_eq_false h]; exact beq_eq_false_iff_ne.2 h
  by_cases h0 : t = []
  · subst h0
    simp only [List.map_nil, List.length_nil, show (((0 : Nat) : Int) = 0) from rfl, ↓reduceIte]
    have hL := Lookup_ev [u] [] (fits_one (by omega)) ft none5
    have e : lookup [u] [] none5 = none5 := by
      by_cases hus : usable u = true
      · rw [lookup_one hus]
        have : lookSeq [] (seq u) = none := lookSeq_none.2 fun x _ => rfl
        rw [this]; rfl
      · exact lookup_no (by simpa using hus) _ _
    rw [e] at hL
    refine Ev.bind hL ?_
    rw [hbn, decide_eq_true rfl]
    exact Ev.now _
  · have hlen : 0 < t.length := List.length_pos_iff.2 h0
    have h1 := ft.1
    simp only [List.length_map, show ¬ ((t.length : Int) = 0) from by omega, ↓reduceIte]
    obtain ⟨j, hj, hjr⟩ := law21_rest_eq n t.length hlen (by omega)
    obtain ⟨s, hs⟩ : ∃ s, t[j]? = some s := ⟨_, List.getElem?_eq_getElem hj⟩
    have hsl := f40 s (List.mem_of_getElem? hs)
    simp only [hjr, Option.bind_some, show (0 : Int) ≤ (j : Int) from by omega, show ((j : Int) < (t.length : Int)) from by omega, getMk t j s hs, ↓reduceIte]
    have hb := ref_Basic_ev (mk s) (by rw [mk_size]; omega)
    rw [bl_mk] at hb
    refine Ev.bind hb ?_
    have key : Ev (fun k => isoglosslaw21_LookupSelf.j0 k (mk u) true (t.map mk) (mk s) (usable s)) true := by
      refine Ev.succ ?_
      simp only [isoglosslaw21_LookupSelf.j0]
      have hU := ref_Upper_ev (mk s) (by rw [mk_size]; omega)
      rw [bl_mk] at hU
      refine Ev.bind hU ?_
      have hL := Lookup_ev [up s] t (fits_one (by rw [up_length]; omega)) ft none5
      refine Ev.bind hL ?_
      have last : Ev (fun k => (lookup_Lookup.f k ([mk s] : List ByteArray) ([(mk s ++ (⟨#[45]⟩ : ByteArray)) ++ mk u] : List ByteArray) (⟨#[110, 111, 110, 101, 33]⟩ : ByteArray)).bind fun z => some (z.toList == ([110, 111, 110, 101, 33] : List UInt8))) true := by
        have e : (mk s ++ (⟨#[45]⟩ : ByteArray)) ++ mk u = mk (s ++ 45 :: u) := by
          rw [show (⟨#[45]⟩ : ByteArray) = mk [45] from rfl, mk_append, mk_append]; simp
        rw [e]
        have h2 := Lookup_ev [s] [s ++ 45 :: u] (fits_one (by omega)) (fits_one (by simp; omega)) none5
        have e2 : lookup [s] [s ++ 45 :: u] none5 = none5 := by
          by_cases hus : usable s = true
          · rw [lookup_one hus]
            have : lookSeq [s ++ 45 :: u] (seq s) = none := lookSeq_none.2 fun x hx => by
              unfold findTag
              refine List.findIdx?_eq_none_iff.2 fun z hz => ?_
              rw [List.mem_singleton.1 hz]
              unfold same
              refine decide_eq_false fun e3 => ?_
              have := congrArg List.length e3
              rw [low_length, low_length, List.length_append, List.length_cons] at this
              have := seq_le hx
              omega
            rw [this]; rfl
          · exact lookup_no (by simpa using hus) _ _
        rw [e2] at h2
        refine Ev.bind h2 ?_
        rw [hbn, decide_eq_true rfl]
        exact Ev.now _
      have sz1 : (mk s).size + 1 ≤ 9223372036854775807 := by rw [mk_size]; omega
      have sz2 : (mk s ++ (⟨#[45]⟩ : ByteArray)).size + (mk u).size ≤ 9223372036854775807 := by
        rw [show (⟨#[45]⟩ : ByteArray) = mk [45] from rfl, mk_append, mk_size, mk_size, List.length_append]; simp; omega
      cases hus : usable s
      · have e : lookup [up s] t none5 = none5 := lookup_no (by rw [usable_up, hus]) _ _
        rw [e]
        simp only [Bool.false_eq_true, ↓reduceIte, htn, sz1, sz2]
        exact last
      · have hne := usable_ne hus
        have hune : up s ≠ [] := by unfold up; simpa using hne
        obtain ⟨q, hq⟩ : ∃ q, findTag t (up s) = some q := findTag_is ⟨s, List.mem_of_getElem? hs, up_low s⟩
        obtain ⟨v, hv, hvl⟩ := findTag_some hq
        have e : lookup [up s] t none5 = v := by
          rw [lookup_one (by rw [usable_up, hus])]
          have : lookSeq t (seq (up s)) = some q := by
            rw [seq_cons _ hune]
            unfold lookSeq
            rw [List.findSome?_cons, hq]
          rw [this]
          show t.getD q [] = v
          rw [List.getD_eq_getElem?_getD, hv]; rfl
        rw [e]
        have l1 := ref_Lower_ev (mk v) (by rw [mk_size]; have := f40 v (List.mem_of_getElem? hv); omega)
        have l2 := ref_Lower_ev (mk s) (by rw [mk_size]; omega)
        rw [bl_mk] at l1 l2
        simp only [↓reduceIte]
        refine Ev.bind l1 (Ev.bind l2 ?_)
        rw [← hvl, up_low]
        simp only [↓reduceIte, sz1, sz2]
        exact last
    have hst : ((mk s).toList != ([42] : List UInt8)) = decide (s ≠ star) := by
      have := beq_star (mk s)
      rw [bl_mk] at this
      unfold bne
      rw [this]
      by_cases h : s = star <;> simp [h]
    unfold usable at key
    cases hbs : basic s
    · rw [hbs] at key
      simp only [Bool.false_eq_true, ↓reduceIte]
      exact key
    · rw [hbs] at key
      simp only [↓reduceIte, hst]
      exact key
end Go.Proofs.Ytoigdaioghmlpaa.Iso
namespace Go.Proofs.Ytoigdaioghmlpaa.Pure
open Go.RowKit Go.Proofs.Ytoigdaioghmlpaa.P Go.Proofs.YtoigdaioghmlpaaW.PrintWords
theorem LookupSelf (a : List ByteArray) (n : Int) (m : ByteArray) (_ : (Lit.int .i64 n).wf = true) (_ : m.size ≤ 140737488351232) : ∃ k, isoglosslaw21_LookupSelf.f k a n m = some true := (Iso.LookupSelf_pure a n m).rounds
end Go.Proofs.Ytoigdaioghmlpaa.Pure
