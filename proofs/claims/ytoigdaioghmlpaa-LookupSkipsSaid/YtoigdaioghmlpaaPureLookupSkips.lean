/- The law LookupSkips, in plain words: stars, and ranges that are none, may stand anywhere among ranges: they change nothing. No condition. -/
import Derived.Test.YtoigdaioghmlpaaEvL
import Derived.Test.YtoigdaioghmlpaaPx11
namespace Go.Proofs.Ytoigdaioghmlpaa.Iso
set_option linter.unusedSimpArgs false
set_option linter.unusedVariables false
open Go Go.RowKit Go.Proofs.YtoigdaioghmlpaaW.PrintWords Go.Proofs.Ytoigdaioghmlpaa.P
def other5 : Str := [111, 116, 104, 101, 114]
theorem lookup_nil (rs : List Str) (o : Str) : lookup rs [] o = o := by
  unfold lookup which
  rw [(whichI_none [] rs 0).2 fun r _ _ => lookSeq_none.2 fun x _ => rfl]
theorem skip_map (r : List Str) (m : Nat) (x : Str) : ((r.map mk).take m ++ [mk x]) ++ (r.map mk).drop m = (r.take m ++ x :: r.drop m).map mk := by
  rw [List.map_append, List.map_cons, List.map_take, List.map_drop, List.append_assoc]; rfl
theorem LookupSkips_pure (a b : List ByteArray) (n : Int) : Ev (fun k => isoglosslaw21_LookupSkips.f k a b n) true := by
  unfold isoglosslaw21_LookupSkips.f
  refine Ev.bind law21_awake_ev ?_
  refine Ev.bind (Few_ev a 5 (by omega)) (Ev.bind (Few_ev b 8 (by omega)) ?_)
  have fr5 := cut40_fits 5 a
  have ft : Fits 1000000 (cut40 8 b) := ⟨by have := (cut40_fits 8 b).1; omega, (cut40_fits 8 b).2⟩
  generalize cut40 5 a = r at *
  generalize cut40 8 b = t at *
  have fr : Fits 1000000 r := ⟨by have := fr5.1; omega, fr5.2⟩
  have h5 := fr5.1
  simp only [List.length_map]
  obtain ⟨m, hm, hmr⟩ := law21_rest_eq n (r.length + 1) (by omega) (by omega)
  simp only [hmr, Option.bind_some, Int.toNat_natCast]
  have o5e : o5 = mk other5 := rfl
  rw [o5e]
  refine Ev.bind (Lookup_ev r t fr ft other5) ?_
  have fx : ∀ x : Str, x.length ≤ 40 → Fits 1000000 (r.take m ++ x :: r.drop m) := fun x hx => by
    refine ⟨by rw [List.length_append, List.length_cons, List.length_take, List.length_drop]; omega, fun p hp => ?_⟩
    rcases List.mem_append.1 hp with hp | hp
    · exact fr.2 p (List.mem_of_mem_take hp)
    · rcases List.mem_cons.1 hp with rfl | hp
      · omega
      · exact fr.2 p (List.mem_of_mem_drop hp)
  have ex : ∀ x : Str, usable x = false → lookup (r.take m ++ x :: r.drop m) t other5 = lookup r t other5 := fun x hx => by
    rw [lookup_skip t x hx, List.take_append_drop]
  have l1 := Lookup_ev (r.take m ++ [42] :: r.drop m) t (fx [42] (by decide)) ft other5
  rw [ex [42] (by decide +kernel), ← skip_map] at l1
  have l2 := Lookup_ev (r.take m ++ [49, 45, 95] :: r.drop m) t (fx [49, 45, 95] (by decide)) ft other5
  rw [ex [49, 45, 95] (by decide +kernel), ← skip_map] at l2
  refine Ev.bind l1 (Ev.bind l2 ?_)
  have fn : Fits 1000000 [] := ⟨by simp, fun p hp => by cases hp⟩
  have l3 := Lookup_ev r [] fr fn other5
  rw [lookup_nil] at l3
  have l4 := Lookup_ev [] t fn ft other5
  rw [show lookup [] t other5 = other5 from rfl] at l4
  refine Ev.bind l3 (Ev.bind l4 ?_)
  rw [if_pos ⟨by trivial, by omega, by omega, by omega, by trivial, by trivial, by trivial, by trivial⟩]
  exact Ev.now _
end Go.Proofs.Ytoigdaioghmlpaa.Iso
namespace Go.Proofs.Ytoigdaioghmlpaa.Pure
open Go.RowKit Go.Proofs.Ytoigdaioghmlpaa.P Go.Proofs.YtoigdaioghmlpaaW.PrintWords
theorem LookupSkips (a b : List ByteArray) (n : Int) (_ : (Lit.int .i64 n).wf = true) : ∃ k, isoglosslaw21_LookupSkips.f k a b n = some true := (Iso.LookupSkips_pure a b n).rounds
end Go.Proofs.Ytoigdaioghmlpaa.Pure
