/- The law LookupIs, in plain words: what is looked up is a tag that there is, the same as a beginning of the range; no range ahead of it finds any. No condition. -/
import Derived.Test.YtoigdaioghmlpaaEvL
import Derived.Test.YtoigdaioghmlpaaPx7
namespace Go.Proofs.Ytoigdaioghmlpaa.Iso
set_option linter.unusedSimpArgs false
open Go Go.RowKit Go.Proofs.YtoigdaioghmlpaaW.PrintWords Go.Proofs.Ytoigdaioghmlpaa.P
theorem Fits.sub {rs qs : List Str} (h : Fits 1000000 rs) (hs : qs.Sublist rs) : Fits 1000000 qs := ⟨Nat.le_trans hs.length_le h.1, fun p hp => h.2 p (hs.subset hp)⟩
theorem lookup_none {rs ts : List Str} (h : ∀ r ∈ rs, usable r = true → lookSeq ts (seq r) = none) (o : Str) : lookup rs ts o = o := by
  unfold lookup which
  rw [(whichI_none ts rs 0).2 h]
theorem is_l0 (r t : List Str) (fr : Fits 1000000 r) (ft : Fits 1000000 t) (h : ∀ x ∈ r, usable x = true → lookSeq t (seq x) = none) : ∀ (q : List Str) (i : Nat), r.drop i = q → i ≤ r.length →
    Ev (fun k => isoglosslaw21_LookupIs.l0 k true (r.map mk) (t.map mk) i) true := by
  intro q
  have h1 := fr.1
  induction q with
  | nil =>
    intro i hd hi
    have g := List.drop_eq_nil_iff.1 hd
    refine Ev.succ ?_
    simp only [isoglosslaw21_LookupIs.l0, List.length_map, show ¬ ((i : Int) < (r.length : Int)) from by omega, ↓reduceIte]
    exact Ev.now _
  | cons x q ih =>
    intro i hd hi
    have hl := congrArg List.length hd
    rw [List.length_drop, List.length_cons] at hl
    have hx : r[i]? = some x := by
      have := congrArg (·[0]?) hd
      simpa using this
    have hd2 : r.drop (i + 1) = q := by rw [← List.drop_drop, hd]; rfl
    have hw := wrap_lt (show i < r.length from by omega) (by omega)
    have hmem := List.mem_of_getElem? hx
    have e : ((r.map mk).take ((i + 1 : Nat) : Int).toNat).drop ((i : Nat) : Int).toNat = [x].map mk := by
      rw [Int.toNat_natCast, Int.toNat_natCast, ← List.map_take, ← List.map_drop, List.take_add_one, hx, List.drop_append_of_le_length (by rw [List.length_take]; omega), List.drop_of_length_le (by rw [List.length_take]; omega)]
      rfl
    refine Ev.succ ?_
    simp only [isoglosslaw21_LookupIs.l0, List.length_map, show ((i : Int) < (r.length : Int)) from by omega, show (0 : Int) ≤ (i : Int) from by omega, hw, show ((i : Int) ≤ ((i + 1 : Nat) : Int)) from by omega, show (((i + 1 : Nat) : Int) ≤ (r.length : Int)) from by omega, e, ↓reduceIte]
    have hL := Lookup_ev [x] t (fits_one (fr.2 x hmem)) ft [110, 111, 110, 101, 33]
    rw [lookup_none (fun y hy => by rw [List.mem_singleton.1 hy]; exact h x hmem)] at hL
    refine Ev.bind hL ?_
    simp only [bl_toList, bl_mk, ↓reduceIte]
    exact ih (i + 1) hd2 (by omega)
theorem LookupIs_pure (a b : List ByteArray) : Ev (fun k => isoglosslaw21_LookupIs.f k a b) true := by
  unfold isoglosslaw21_LookupIs.f
  refine Ev.bind law21_awake_ev ?_
  refine Ev.bind (Few_ev a 5 (by omega)) (Ev.bind (Few_ev b 8 (by omega)) ?_)
  have fr : Fits 1000000 (cut40 5 a) := ⟨by have := (cut40_fits 5 a).1; omega, (cut40_fits 5 a).2⟩
  have ft : Fits 1000000 (cut40 8 b) := ⟨by have := (cut40_fits 8 b).1; omega, (cut40_fits 8 b).2⟩
  generalize cut40 5 a = r at *
  generalize cut40 8 b = t at *
  refine Ev.bind (Which_ev r t fr ft) ?_
  cases h : which r t with
  | none =>
    simp only [encW, Bool.false_eq_true, ↓reduceIte]
    exact is_l0 r t fr ft ((whichI_none t r 0).1 h) r 0 rfl (by omega)
  | some p =>
    obtain ⟨i, k⟩ := p
    obtain ⟨hi, hk⟩ := which_lt h
    obtain ⟨_, x, h2, h3, h4, h5, h6⟩ := whichI_some t r 0 i k h
    rw [Nat.sub_zero] at h2 h5 h6
    obtain ⟨y, hy, hf⟩ := lookSeq_some h4
    obtain ⟨u, hu, hlow⟩ := findTag_some hf
    obtain ⟨hy0, hy1⟩ := seq_mem hy
    have hlen : y.length = u.length := by have := congrArg List.length hlow; rwa [low_length, low_length] at this
    have hxl := fr.2 x (List.mem_of_getElem? h2)
    have hul := ft.2 u (List.mem_of_getElem? hu)
    have hle : u.length ≤ x.length := by have := seq_le hy; omega
    have htake : x.take u.length = y := by
      rcases hy1 with rfl | ⟨z, rfl⟩
      · exact List.take_of_length_le (by omega)
      · rw [← hlen]; simp
    have hgi := getMk r i x h2
    have hgk := getMk t k u hu
    have ex : (mk x).extract 0 ((u.length : Int)).toNat = mk y := by
      refine bl_inj ?_
      rw [bl_extract, bl_mk, bl_mk, List.drop_zero, Int.toNat_natCast, Nat.sub_zero, htake]
    simp only [encW, ↓reduceIte, show ¬ ((i : Int) < 0) from by omega, List.length_map, show ¬ ((i : Int) ≥ (r.length : Int)) from by omega, show ¬ ((k : Int) < 0) from by omega, show ¬ ((k : Int) ≥ (t.length : Int)) from by omega, show (0 : Int) ≤ (k : Int) from by omega, show ((k : Int) < (t.length : Int)) from by omega, show (0 : Int) ≤ (i : Int) from by omega, show ((i : Int) < (r.length : Int)) from by omega, hgi, hgk, mk_size, show ¬ ((u.length : Int) > (x.length : Int)) from by omega, show (0 : Int) ≤ (u.length : Int) from by omega, show ((u.length : Int) ≤ (x.length : Int)) from by omega, ex]
    have l1 := ref_Lower_ev (mk y) (by rw [mk_size]; omega)
    have l2 := ref_Lower_ev (mk u) (by rw [mk_size]; omega)
    rw [bl_mk] at l1 l2
    refine Ev.bind l1 (Ev.bind l2 ?_)
    rw [hlow]
    simp only [bne_self_eq_false]
    refine Ev.succ ?_
    have e1 : (r.map mk).take ((i : Int)).toNat = (r.take i).map mk := by rw [Int.toNat_natCast, List.map_take]
    have e2 : (r.map mk).drop ((i : Int)).toNat = (r.drop i).map mk := by rw [Int.toNat_natCast, List.map_drop]
    simp only [isoglosslaw21_LookupIs.j1, Bool.false_eq_true, ↓reduceIte, List.length_map, show (0 : Int) ≤ (i : Int) from by omega, show ((i : Int) ≤ (r.length : Int)) from by omega, e1, e2]
    have w1 := Which_ev (r.take i) t (fr.sub (List.take_sublist _ _)) ft
    have w2 := Which_ev (r.drop i) t (fr.sub (List.drop_sublist _ _)) ft
    unfold which at w1 w2
    rw [h5] at w1
    rw [h6] at w2
    refine Ev.bind w1 (Ev.bind w2 ?_)
    simp only [encW, Bool.false_eq_true, ↓reduceIte, List.length_map, show (0 : Int) ≤ (k : Int) from by omega, show ((k : Int) < (t.length : Int)) from by omega, show ((i : Int) < (r.length : Int)) from by omega, hgi, hgk, mk_size, show (0 : Int) ≤ (u.length : Int) from by omega]
    by_cases he : u.length = x.length
    · simp only [he, ↓reduceIte]; exact Ev.now _
    · have hlt : u.length < x.length := by omega
      simp only [show ¬ ((u.length : Int) = (x.length : Int)) from by omega, show ((u.length : Int) < (x.length : Int)) from by omega, ↓reduceIte]
      have hd : x[u.length]? = some 45 := by
        rcases hy1 with rfl | ⟨z, rfl⟩
        · omega
        · rw [← hlen]; simp
      have := bt_dash (s := mk x) (i := u.length) hlt
      rw [bl_mk, hd, decide_eq_true rfl] at this
      rw [this]
      exact Ev.now _
end Go.Proofs.Ytoigdaioghmlpaa.Iso
namespace Go.Proofs.Ytoigdaioghmlpaa.Pure
open Go.RowKit Go.Proofs.Ytoigdaioghmlpaa.P Go.Proofs.YtoigdaioghmlpaaW.PrintWords
theorem LookupIs (a b : List ByteArray) : ∃ k, isoglosslaw21_LookupIs.f k a b = some true := (Iso.LookupIs_pure a b).rounds
end Go.Proofs.Ytoigdaioghmlpaa.Pure
