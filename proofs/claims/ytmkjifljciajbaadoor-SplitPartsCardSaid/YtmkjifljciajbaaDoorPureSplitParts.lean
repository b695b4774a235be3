/- The law SplitParts, in plain words. No condition. -/
import Derived.Test.YtmkjifljciajbaaDoorEvS
import Derived.Test.YtmkjifljciajbaaDoorPx4
namespace Go.Proofs.YtmkjifljciajbaaDoor.Iso
set_option linter.unusedSimpArgs false
set_option linter.unusedVariables false
open Go Go.RowKit Go.Proofs.YtmkjifljciajbaaDoorW.PrintWords Go.Proofs.YtmkjifljciajbaaDoor.P
theorem SplitParts_plain (a b : ByteArray) : Ev (fun k => isoglosslaw04_SplitParts.f k a b) true := by
  unfold isoglosslaw04_SplitParts.f
  refine Ev.bind law04_awake_ev ?_
  simp only [law04_short_eq, Option.bind_some]
  have ha := take60 (bl a)
  have hb := take60 (bl b)
  generalize (bl a).take 60 = A at *
  generalize (bl b).take 60 = B at *
  have hA := split_length A
  have hB := split_length B
  have hd : (⟨#[45]⟩ : ByteArray) = mk [45] := rfl
  have hj : mk A ++ mk [45] ++ mk B = mk (A ++ 45 :: B) := by rw [mk_append, mk_append]; simp
  have hjl : (A ++ 45 :: B).length = A.length + B.length + 1 := by simp; omega
  have hsz : (mk A ++ mk [45]).size = A.length + 1 := by rw [mk_append, mk_size]; simp
  simp only [hd, hj, split_mk A (by omega), split_mk B (by omega), split_mk (A ++ 45 :: B) (by omega), Option.bind_some, List.nil_append, List.length_nil, List.length_map, mk_size]
  simp only [show 0 + (split A).length < 8796093022208 from by omega, show (split A).length + (split B).length < 8796093022208 from by omega, show A.length + 1 ≤ 9223372036854775807 from by omega, show (mk A ++ mk [45]).size + B.length ≤ 9223372036854775807 from by rw [hsz]; omega, ↓reduceIte]
  rw [← List.map_append, ← split_append]
  refine Ev.bind (Same_ev _ _ (by have := split_length (A ++ 45 :: B); omega)) ?_
  refine Ev.bind (Trim_ev _ (by omega)) ?_
  have ht := trim_lt (A ++ 45 :: B) (by simp)
  have hw : wrap64 (wrap64 ((A.length : Int) + 1) + (B.length : Int)) = (A.length : Int) + 1 + (B.length : Int) := by unfold wrap64; omega
  simp only [↓reduceIte, decide_true, mk_size, hw]
  have hlt : ((trim (A ++ 45 :: B)).length : Int) < (A.length : Int) + 1 + (B.length : Int) := by omega
  simp only [hlt, ↓reduceIte]
  by_cases c : ((split B).length : Int) > 1
  · simp only [c, ↓reduceIte]; exact Ev.now _
  · simp only [c, ↓reduceIte]
    have hne := split_ne B
    have hl : (trim (A ++ 45 :: B)).length ≤ A.length := by
      cases hs : split B with
      | nil => exact absurd hs hne
      | cons x t =>
        cases t with
        | cons y t => rw [hs] at c; simp at c; omega
        | nil =>
          unfold trim
          rw [split_append, hs, trimP_snoc]
          have h1 : (dropR (split A).reverse).reverse <+: split A := by
            have := List.reverse_prefix.2 (dropR_suffix (split A).reverse)
            rwa [List.reverse_reverse] at this
          have := prefix_join_le h1
          rwa [join_split] at this
    rw [decide_eq_true (by omega)]
    exact Ev.now _
end Go.Proofs.YtmkjifljciajbaaDoor.Iso
namespace Go.Proofs.YtmkjifljciajbaaDoor.Pure
open Go.RowKit Go.Proofs.YtmkjifljciajbaaDoor.P Go.Proofs.YtmkjifljciajbaaDoorW.PrintWords
theorem SplitParts : isoglosslaw04_SplitParts.Pure := fun a b _ _ => (Iso.SplitParts_plain a b).rounds
end Go.Proofs.YtmkjifljciajbaaDoor.Pure
