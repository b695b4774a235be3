/- The law FilterJoins, in plain words: of two rows of tags, one behind the other, those are let through that are of each. No condition. -/
import Derived.Test.YtanahbcdilcmoaaEvFF
import Derived.Test.YtanahbcdilcmoaaPureFilterMore
import Derived.Test.YtanahbcdilcmoaaPx15
namespace Go.Proofs.Ytanahbcdilcmoaa.Iso
set_option linter.unusedSimpArgs false
set_option linter.unusedVariables false
open Go Go.RowKit Go.Proofs.YtanahbcdilcmoaaW.PrintWords Go.Proofs.Ytanahbcdilcmoaa.P
theorem Ev.pos {α : Type} {c : Prop} [Decidable c] {f g : Nat → Option α} {r : α} (h : c) (H : Ev f r) : Ev (fun k => if c then f k else g k) r := by
  obtain ⟨K, hK⟩ := H
  exact ⟨K, fun k hk => (if_pos h).trans (hK k hk)⟩
theorem Ev.eq {α : Type} {x y : α} (h : x = y) : Ev (fun _ => some x) y := by rw [h]; exact Ev.now _
theorem sieve_append (m : Str → Str → Bool) (rs a b : List Str) : sieve m rs (a ++ b) = sieve m rs a ++ sieve m rs b := List.filter_append ..
theorem sieve_length_le (m : Str → Str → Bool) (rs ts : List Str) : (sieve m rs ts).length ≤ ts.length := List.length_filter_le ..
theorem sieve_le {m m' : Str → Str → Bool} {rs rs' : List Str} (ts : List Str) (h : ∀ t, (rs.any fun r => m r t) = true → (rs'.any fun r => m' r t) = true) : (sieve m rs ts).length ≤ (sieve m' rs' ts).length := by
  unfold sieve
  rw [← List.countP_eq_length_filter, ← List.countP_eq_length_filter]
  exact List.countP_mono_left fun t _ => h t
theorem sieve_more (m : Str → Str → Bool) (rs : List Str) (x : Str) (ts : List Str) : (sieve m rs ts).length ≤ (sieve m (rs ++ [x]) ts).length :=
  sieve_le ts fun t h => by rw [List.any_append, h, Bool.true_or]
theorem sieve_ext (rs ts : List Str) : (sieve mat rs ts).length ≤ (sieve mext rs ts).length :=
  sieve_le ts fun t h => by
    obtain ⟨r, hr, h⟩ := List.any_eq_true.1 h
    exact List.any_eq_true.2 ⟨r, hr, mat_mext h⟩
theorem mapApp (a b : List Str) : a.map mk ++ b.map mk = (a ++ b).map mk := (List.map_append ..).symm
theorem FilterJoins_pure (l0 l1 : List ByteArray) (m : ByteArray) (l3 : List ByteArray) : Ev (fun k => isoglosslaw20_FilterJoins.f k l0 l1 m l3) true := by
  unfold isoglosslaw20_FilterJoins.f
  refine Ev.bind law20_awake_ev ?_
  refine Ev.bind (Few_ev l0 5 (by omega)) (Ev.bind (Few_ev l1 6 (by omega)) (Ev.bind (Few_ev l3 6 (by omega)) ?_))
  have f0 := cut40_fits 5 l0
  have f1 := cut40_fits 6 l1
  have f3 := cut40_fits 6 l3
  generalize cut40 5 l0 = r at *
  generalize cut40 6 l1 = a at *
  generalize cut40 6 l3 = b at *
  have n0 := f0.1
  have n1 := f1.1
  have n3 := f3.1
  have fr : Fits 1000000 r := ⟨by omega, f0.2⟩
  have fa : Fits 1000000 a := ⟨by omega, f1.2⟩
  have fb : Fits 1000000 b := ⟨by omega, f3.2⟩
  have fab : Fits 1000000 (a ++ b) := ⟨by rw [List.length_append]; omega, fun p hp => (List.mem_append.1 hp).elim (fa.2 p) (fb.2 p)⟩
  have N : ∀ (x y : List Str), x.length ≤ 1000 → y.length ≤ 1000 → (x.map mk).length + (y.map mk).length < 8796093022208 := fun x y hx hy => by rw [List.length_map, List.length_map]; omega
  have L : ∀ (f : Str → Str → Bool) (ts : List Str), ts.length ≤ 1000 → (sieve f r ts).length ≤ 1000 := fun f ts h => Nat.le_trans (sieve_length_le f r ts) h
  refine Ev.bind (a := ([] : List Str).map mk) (Ev.eq rfl) (Ev.pos (N [] a (by simp) (by omega)) ?_)
  refine Ev.bind (a := a.map mk) (Ev.eq rfl) (Ev.pos (N a b (by omega) (by omega)) ?_)
  refine Ev.bind (a := (a ++ b).map mk) (Ev.eq (mapApp a b)) (Ev.bind (Filter_ev r (a ++ b) fr fab) ?_)
  refine Ev.bind (a := ([] : List Str).map mk) (Ev.eq rfl) (Ev.bind (Filter_ev r a fr fa) (Ev.pos (N [] _ (by simp) (L mat a (by omega))) ?_))
  refine Ev.bind (a := (sieve mat r a).map mk) (Ev.eq rfl) (Ev.bind (Filter_ev r b fr fb) (Ev.pos (N _ _ (L mat a (by omega)) (L mat b (by omega))) ?_))
  have s1 := Same_ev (sieve mat r (a ++ b)) (sieve mat r a ++ sieve mat r b) (by have := L mat (a ++ b) (by rw [List.length_append]; omega); omega)
  rw [decide_eq_true (sieve_append mat r a b), ← mapApp] at s1
  refine Ev.bind s1 (Ev.bind (FilterExtended_ev r (a ++ b) fr fab) ?_)
  refine Ev.bind (a := ([] : List Str).map mk) (Ev.eq rfl) (Ev.bind (FilterExtended_ev r a fr fa) (Ev.pos (N [] _ (by simp) (L mext a (by omega))) ?_))
  refine Ev.bind (a := (sieve mext r a).map mk) (Ev.eq rfl) (Ev.bind (FilterExtended_ev r b fr fb) (Ev.pos (N _ _ (L mext a (by omega)) (L mext b (by omega))) ?_))
  have s2 := Same_ev (sieve mext r (a ++ b)) (sieve mext r a ++ sieve mext r b) (by have := L mext (a ++ b) (by rw [List.length_append]; omega); omega)
  rw [decide_eq_true (sieve_append mext r a b), ← mapApp] at s2
  refine Ev.bind s2 ?_
  refine Ev.bind (a := ([] : List Str).map mk) (Ev.eq rfl) (Ev.pos (N [] r (by simp) (by omega)) ?_)
  refine Ev.bind (a := r.map mk) (Ev.eq rfl) ?_
  refine Ev.bind (a := mk ((bl m).take 40)) (by rw [law20_short_eq]; exact Ev.now _) ?_
  have hx : ((bl m).take 40).length ≤ 40 := List.length_take_le _ _
  generalize (bl m).take 40 = x at *
  refine Ev.pos (by rw [List.length_map]; omega) ?_
  refine Ev.bind (a := (r ++ [x]).map mk) (Ev.eq (mapApp r [x])) ?_
  have fx : Fits 1000000 (r ++ [x]) := ⟨by rw [List.length_append, List.length_singleton]; omega, fun p hp => (List.mem_append.1 hp).elim (fr.2 p) (fun h => by rw [List.mem_singleton.1 h]; omega)⟩
  refine Ev.pos rfl (Ev.pos rfl (Ev.pos rfl ?_))
  refine Ev.bind (Filter_ev (r ++ [x]) (a ++ b) fx fab) (Ev.bind (Filter_ev r (a ++ b) fr fab) (Ev.pos ?_ ?_))
  · have := sieve_more mat r x (a ++ b); rw [List.length_map, List.length_map]; omega
  refine Ev.bind (FilterExtended_ev (r ++ [x]) (a ++ b) fx fab) (Ev.bind (FilterExtended_ev r (a ++ b) fr fab) (Ev.pos ?_ ?_))
  · have := sieve_more mext r x (a ++ b); rw [List.length_map, List.length_map]; omega
  refine Ev.bind (Filter_ev r (a ++ b) fr fab) (Ev.bind (FilterExtended_ev r (a ++ b) fr fab) (Ev.eq ?_))
  refine decide_eq_true ?_
  have := sieve_ext r (a ++ b)
  rw [List.length_map, List.length_map]; omega
end Go.Proofs.Ytanahbcdilcmoaa.Iso
namespace Go.Proofs.Ytanahbcdilcmoaa.Pure
open Go.RowKit Go.Proofs.Ytanahbcdilcmoaa.P Go.Proofs.YtanahbcdilcmoaaW.PrintWords
theorem FilterJoins (l0 l1 : List ByteArray) (m : ByteArray) (l3 : List ByteArray) (_ : m.size ≤ 140737488351232) : ∃ k, isoglosslaw20_FilterJoins.f k l0 l1 m l3 = some true := (Iso.FilterJoins_pure l0 l1 m l3).rounds
end Go.Proofs.Ytanahbcdilcmoaa.Pure
