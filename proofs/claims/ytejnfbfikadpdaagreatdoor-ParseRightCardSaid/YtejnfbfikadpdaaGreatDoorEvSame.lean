/- What the document's Same tells of two tags. Condition: rows are no longer than a whole number. -/
import Derived.Test.YtejnfbfikadpdaaGreatDoorEvMade
import Derived.Test.YtejnfbfikadpdaaGreatDoorPx10
namespace Go.Proofs.YtejnfbfikadpdaaGreatDoor.P
open Go.RowKit Go.Shelf Go.Proofs.YtejnfbfikadpdaaGreatDoorW.PrintWords
set_option linter.unusedVariables false
set_option linter.unusedSimpArgs false
theorem ev_succ {α : Type} {g : Nat → Option α} {r : α} (h : Ev (fun k => g (k + 1)) r) : Ev g r := by
  obtain ⟨K, hK⟩ := h
  refine ⟨K + 1, fun k hk => ?_⟩
  obtain ⟨m, rfl⟩ : ∃ m, k = m + 1 := ⟨k - 1, by omega⟩
  exact hK m (by omega)
theorem refrow_l0 (xs ys : List ByteArray) (hxy : xs.length = ys.length) (hn : xs.length ≤ 9223372036854775807) : ∀ (d i : Nat), d + i = xs.length → Ev (fun k => r4_Same.l0 k xs ys (i : Int)) (decide (xs.drop i = ys.drop i)) := by
  intro d
  induction d with
  | zero =>
    intro i hi
    refine ev_succ ?_
    simp only [r4_Same.l0, show ¬ ((i : Int) < (xs.length : Int)) from by omega, ↓reduceIte]
    rw [List.drop_eq_nil_of_le (by omega), List.drop_eq_nil_of_le (by omega)]
    exact Ev.now _
  | succ d ih =>
    intro i hi
    have hx : i < xs.length := by omega
    have hy : i < ys.length := by omega
    have ex : rdOf ByteArray.empty xs (i : Int) = xs[i] := by unfold rdOf; rw [Int.toNat_natCast, List.getD_eq_getElem?_getD, List.getElem?_eq_getElem hx]; rfl
    have ey : rdOf ByteArray.empty ys (i : Int) = ys[i] := by unfold rdOf; rw [Int.toNat_natCast, List.getD_eq_getElem?_getD, List.getElem?_eq_getElem hy]; rfl
    have hw : wrap64 ((i : Int) + 1) = ((i + 1 : Nat) : Int) := by unfold wrap64; omega
    refine ev_succ ?_
    simp only [r4_Same.l0, show ((i : Int) < (xs.length : Int)) from by omega, show ((i : Int) < (ys.length : Int)) from by omega, show (0 : Int) ≤ (i : Int) from by omega, ↓reduceIte, ex, ey, hw]
    rw [List.drop_eq_getElem_cons hx, List.drop_eq_getElem_cons hy]
    by_cases c : xs[i] = ys[i]
    · simp only [ba_same.2 c, ↓reduceIte, List.cons.injEq, c, true_and]
      exact ih (i + 1) (by omega)
    · simp only [show ¬ (xs[i].toList = ys[i].toList) from fun h => c (ba_same.1 h), ↓reduceIte, List.cons.injEq, c, false_and, decide_false]
      exact Ev.now _
theorem refrow_ev (xs ys : List ByteArray) (hn : xs.length ≤ 9223372036854775807) : Ev (fun k => r4_Same.f k xs ys) (decide (xs = ys)) := by
  unfold r4_Same.f
  by_cases hl : xs.length = ys.length
  · simp only [show ((xs.length : Int) = (ys.length : Int)) from by omega, ↓reduceIte]
    exact refrow_l0 xs ys hl hn xs.length 0 rfl
  · simp only [show ¬ ((xs.length : Int) = (ys.length : Int)) from by omega, ↓reduceIte]
    rw [decide_eq_false (fun h => hl (by rw [h]))]
    exact Ev.now _
end Go.Proofs.YtejnfbfikadpdaaGreatDoor.P
namespace Go.Proofs.YtejnfbfikadpdaaGreatDoor.P
open Go.RowKit Go.Shelf Go.Proofs.YtejnfbfikadpdaaGreatDoorW.PrintWords
set_option linter.unusedVariables false
set_option linter.unusedSimpArgs false
theorem refexts_l0 (T U : TG) (hxy : T.exts.length = U.exts.length) (hn : T.exts.length ≤ 9223372036854775807) (hs : ∀ x ∈ T.exts, x.f1.length ≤ 9223372036854775807) : ∀ (d i : Nat), d + i = T.exts.length →
    Ev (fun k => r6_Same.l0 k (i : Int) T.lang T.ext T.script T.region T.vars T.exts T.priv T.grand U.lang U.ext U.script U.region U.vars U.exts U.priv U.grand) (sameL (T.exts.drop i) (U.exts.drop i)) := by
  intro d
  induction d with
  | zero =>
    intro i hi
    refine ev_succ ?_
    simp only [r6_Same.l0, show ¬ ((i : Int) < (T.exts.length : Int)) from by omega, ↓reduceIte]
    rw [List.drop_eq_nil_of_le (by omega), List.drop_eq_nil_of_le (by omega)]
    exact Ev.now _
  | succ d ih =>
    intro i hi
    have hx : i < T.exts.length := by omega
    have hy : i < U.exts.length := by omega
    have hw : wrap64 ((i : Int) + 1) = ((i + 1 : Nat) : Int) := by unfold wrap64; omega
    refine ev_succ ?_
    simp only [r6_Same.l0, show ((i : Int) < (T.exts.length : Int)) from by omega, show ((i : Int) < (U.exts.length : Int)) from by omega, show (0 : Int) ≤ (i : Int) from by omega, ↓reduceIte, getR _ _ hx, getR _ _ hy, hw]
    rw [List.drop_eq_getElem_cons hx, List.drop_eq_getElem_cons hy]
    refine Ev.bind (refrow_ev T.exts[i].f1 U.exts[i].f1 (hs _ (List.getElem_mem hx))) ?_
    unfold sameL sameX
    by_cases c : T.exts[i].f1 = U.exts[i].f1
    · by_cases c0 : T.exts[i].f0 = U.exts[i].f0
      · simp only [c, c0, decide_true, ↓reduceIte, Bool.true_and]
        exact ih (i + 1) (by omega)
      · simp only [c, c0, decide_true, decide_false, ↓reduceIte, Bool.false_and, show ¬ (T.exts[i].f0.toList = U.exts[i].f0.toList) from fun h => c0 (ba_same.1 h)]
        exact Ev.now _
    · simp only [c, decide_false, Bool.and_false, Bool.false_and, Bool.false_eq_true, ↓reduceIte]
      exact Ev.now _
theorem reftag_no (T U : TG) : Ev (fun k => r6_Same.j0 k true T.lang T.ext T.script T.region T.vars T.exts T.priv T.grand U.lang U.ext U.script U.region U.vars U.exts U.priv U.grand) false := by
  refine ev_succ ?_
  simp only [r6_Same.j0, ↓reduceIte]
  exact Ev.now _
theorem reftag_ev (T U : TG) (h1 : T.ext.length ≤ 9223372036854775807) (h4 : T.vars.length ≤ 9223372036854775807) (h6 : T.priv.length ≤ 9223372036854775807) (hn : T.exts.length ≤ 9223372036854775807) (hs : ∀ x ∈ T.exts, x.f1.length ≤ 9223372036854775807) :
    Ev (fun k => r6_Same.f k T.lang T.ext T.script T.region T.vars T.exts T.priv T.grand U.lang U.ext U.script U.region U.vars U.exts U.priv U.grand) (sameT T U) := by
  unfold r6_Same.f
  refine Ev.bind (refrow_ev _ _ h1) (Ev.bind (refrow_ev _ _ h4) (Ev.bind (refrow_ev _ _ h6) ?_))
  unfold sameT
  have q : ∀ x y : ByteArray, (x.toList = y.toList) = (x = y) := fun x y => propext ba_same
  simp only [decide_eq_true_eq, q]
  by_cases c1 : T.ext = U.ext
  · by_cases c2 : T.vars = U.vars
    · by_cases c3 : T.priv = U.priv
      · by_cases c4 : T.lang = U.lang
        · by_cases c5 : T.script = U.script
          · by_cases c6 : T.region = U.region
            · by_cases c7 : T.grand = U.grand
              · simp only [c1, c2, c3, c4, c5, c6, c7, ↓reduceIte, decide_true, Bool.true_and]
                rw [← c1, ← c2, ← c3, ← c4, ← c5, ← c6, ← c7]
                refine ev_succ ?_
                by_cases hl : T.exts.length = U.exts.length
                · have e : ((T.exts.length : Int) != (U.exts.length : Int)) = false := by rw [bne_eq_false_iff_eq]; omega
                  simp only [r6_Same.j0, e, Bool.false_eq_true, ↓reduceIte]
                  have := refexts_l0 T U hl hn hs T.exts.length 0 rfl
                  rw [← c1, ← c2, ← c3, ← c4, ← c5, ← c6, ← c7] at this
                  exact this
                · have e : ((T.exts.length : Int) != (U.exts.length : Int)) = true := by rw [bne_iff_ne]; omega
                  simp only [r6_Same.j0, e, ↓reduceIte]
                  rw [sameL_ne _ _ hl]
                  exact Ev.now _
              · simp only [c1, c2, c3, c4, c5, c6, c7, ↓reduceIte, decide_true, decide_false, Bool.true_and, Bool.false_and]
                simpa only [c1, c2, c3, c4, c5, c6] using reftag_no T U
            · simp only [c1, c2, c3, c4, c5, c6, ↓reduceIte, decide_true, decide_false, Bool.true_and, Bool.false_and]
              simpa only [c1, c2, c3, c4, c5] using reftag_no T U
          · simp only [c1, c2, c3, c4, c5, ↓reduceIte, decide_true, decide_false, Bool.true_and, Bool.false_and]
            simpa only [c1, c2, c3, c4] using reftag_no T U
        · simp only [c1, c2, c3, c4, ↓reduceIte, decide_true, decide_false, Bool.true_and, Bool.false_and]
          simpa only [c1, c2, c3] using reftag_no T U
      · simp only [c1, c2, c3, ↓reduceIte, decide_true, decide_false, Bool.true_and, Bool.false_and, Bool.and_false]
        simpa only [c1, c2] using reftag_no T U
    · simp only [c1, c2, ↓reduceIte, decide_true, decide_false, Bool.true_and, Bool.false_and, Bool.and_false]
      simpa only [c1] using reftag_no T U
  · simp only [c1, ↓reduceIte, decide_true, decide_false, Bool.true_and, Bool.false_and, Bool.and_false]
    exact reftag_no T U
end Go.Proofs.YtejnfbfikadpdaaGreatDoor.P
