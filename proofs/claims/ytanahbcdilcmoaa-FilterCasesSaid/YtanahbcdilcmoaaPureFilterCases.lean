/- The law FilterCases, in plain words, for every input. Condition: as every argument, texts have at most 2^47 - 4096 bytes. -/
import Derived.Test.YtanahbcdilcmoaaEvF
import Derived.Test.YtanahbcdilcmoaaPx6
namespace Go.Proofs.Ytanahbcdilcmoaa.Iso
set_option linter.unusedSimpArgs false
set_option linter.unusedVariables false
open Go Go.RowKit Go.Proofs.YtanahbcdilcmoaaW.PrintWords Go.Proofs.Ytanahbcdilcmoaa.P
theorem lowC_star (c : UInt8) : lowC c = 42 ↔ c = 42 := of_decide_eq_true (byte_all (fun c => decide (lowC c = 42 ↔ c = 42)) (by decide +kernel) c)
theorem upC_star (c : UInt8) : upC c = 42 ↔ c = 42 := of_decide_eq_true (byte_all (fun c => decide (upC c = 42 ↔ c = 42)) (by decide +kernel) c)
theorem map_star (f : UInt8 → UInt8) (hf : ∀ c, f c = 42 ↔ c = 42) (s : Str) : s.map f = star ↔ s = star := by
  unfold star
  match s with
  | [] => simp
  | [c] => simp [hf]
  | c :: d :: t => simp
/-- A change of cases: letters to letters, all else as it was. -/
structure Cased (f : UInt8 → UInt8) : Prop where
  al : ∀ c, isAl (f c) = isAl c
  dg : ∀ c, isDg (f c) = isDg c
  dash : ∀ c, f c = 45 ↔ c = 45
  st : ∀ c, f c = 42 ↔ c = 42
  lo : ∀ c, lowC (f c) = lowC c
theorem cased_low : Cased lowC := ⟨isAl_low, isDg_low, lowC_dash, lowC_star, fun c => of_decide_eq_true (byte_all (fun c => decide (lowC (lowC c) = lowC c)) (by decide +kernel) c)⟩
theorem cased_up : Cased upC := ⟨isAl_up, isDg_up, upC_dash, upC_star, fun c => of_decide_eq_true (byte_all (fun c => decide (lowC (upC c) = lowC c)) (by decide +kernel) c)⟩
variable {f g : UInt8 → UInt8}
theorem Cased.low (h : Cased f) (s : Str) : low (s.map f) = low s := by
  unfold Iso.low
  rw [List.map_map]
  exact List.map_congr_left fun c _ => h.lo c
theorem Cased.same (h : Cased f) (k : Cased g) (s t : Str) : same (s.map f) (t.map g) = same s t := by unfold Iso.same; rw [h.low, k.low]
theorem Cased.split (h : Cased f) (s : Str) : split (s.map f) = (split s).map (List.map f) := by
  rw [split_sp, split_sp]; exact sp_map f h.dash s []
theorem Cased.word (h : Cased f) (b : Bool) (p : Str) : word b (p.map f) = word b p := by
  unfold Iso.word alpha alnum
  rw [cls_map f h.al h.dg, List.length_map]
theorem Cased.star (h : Cased f) (p : Str) : decide (p.map f = Iso.star) = decide (p = Iso.star) := by
  congr 1; exact propext (map_star f h.st p)
theorem Cased.word2 (h : Cased f) (b : Bool) (p : Str) : word2 b (p.map f) = word2 b p := by
  unfold Iso.word2
  rw [h.word, h.star]
theorem wsG_map (w : Bool → Str → Bool) (hw : ∀ b p, w b (p.map f) = w b p) : ∀ (b : Bool) (ps : List Str), wsG w b (ps.map (List.map f)) = wsG w b ps
  | _, [] => rfl
  | b, p :: ps => by simp only [List.map_cons, wsG, hw, wsG_map w hw false ps]
theorem Cased.basic (h : Cased f) (s : Str) : basic (s.map f) = basic s := by
  unfold Iso.basic
  rw [h.split, h.star, wsG_map _ h.word]
theorem Cased.ext (h : Cased f) (s : Str) : ext (s.map f) = ext s := by
  unfold Iso.ext
  rw [h.split, wsG_map _ h.word2]
theorem cased_id : Cased id := ⟨fun _ => rfl, fun _ => rfl, fun _ => Iff.rfl, fun _ => Iff.rfl, fun _ => rfl⟩
theorem mat_cases (h : Cased f) (k : Cased g) (s t : Str) : mat (s.map f) (t.map g) = mat s t := by
  unfold mat
  rw [h.basic, h.star, h.same k, List.length_map, List.length_map, ← List.map_take, h.same k, List.getElem?_map]
  congr 3
  cases t[s.length]? with
  | none => rfl
  | some c => simp only [Option.map_some, Option.some.injEq, k.dash]
theorem seek_cases (h : Cased f) (k : Cased g) (r : Str) (a b : List Str → Bool) (hab : ∀ ts, a (ts.map (List.map g)) = b ts) : ∀ ts, seek (r.map f) a (ts.map (List.map g)) = seek r b ts
  | [] => rfl
  | t :: ts => by simp only [List.map_cons, seek, h.same k, hab, List.length_map, seek_cases h k r a b hab ts]
theorem walk_cases (h : Cased f) (k : Cased g) : ∀ rs ts, walk (rs.map (List.map f)) (ts.map (List.map g)) = walk rs ts
  | [], _ => rfl
  | r :: rs, ts => by
    simp only [List.map_cons, walk, walk_cases h k rs, map_star f h.st]
    rw [seek_cases h k r _ _ (walk_cases h k rs)]
theorem mext_cases (h : Cased f) (k : Cased g) (s t : Str) : mext (s.map f) (t.map g) = mext s t := by
  unfold mext
  rw [h.ext, h.split, k.split]
  cases split s with
  | nil => rfl
  | cons r rs =>
    cases split t with
    | nil => rfl
    | cons q qs => simp only [List.map_cons, h.star, h.same k, walk_cases h k]
theorem FilterCases_pure (a b : ByteArray) : Ev (fun k => isoglosslaw20_FilterCases.f k a b) true := by
  unfold isoglosslaw20_FilterCases.f
  refine Ev.bind law20_awake_ev ?_
  simp only [law20_short_eq, Option.bind_some, ↓reduceIte]
  have ha := take40 (bl a); have hb := take40 (bl b)
  generalize mk ((bl a).take 40) = s at *
  generalize mk ((bl b).take 40) = t at *
  have us : (mk (up (bl s))).size ≤ 40 := by rw [mk_size, up_length, bl_len]; exact ha
  have ut : (mk (up (bl t))).size ≤ 40 := by rw [mk_size, up_length, bl_len]; exact hb
  have ls : (mk (low (bl s))).size ≤ 40 := by rw [mk_size, low_length, bl_len]; exact ha
  have lt : (mk (low (bl t))).size ≤ 40 := by rw [mk_size, low_length, bl_len]; exact hb
  have m1 : mat (up (bl s)) (bl t) = mat (bl s) (bl t) := by
    have := mat_cases cased_up cased_id (bl s) (bl t)
    rwa [List.map_id] at this
  have m2 : mat (bl s) (up (bl t)) = mat (bl s) (bl t) := by
    have := mat_cases cased_id cased_up (bl s) (bl t)
    rwa [List.map_id] at this
  have m3 : mext (up (bl s)) (low (bl t)) = mext (bl s) (bl t) := mext_cases cased_up cased_low (bl s) (bl t)
  have m4 : mext (low (bl s)) (up (bl t)) = mext (bl s) (bl t) := mext_cases cased_low cased_up (bl s) (bl t)
  refine Ev.bind (filter_Matches_ev s t (by omega) (by omega)) ?_
  refine Ev.bind (filter_MatchesExtended_ev s t (by omega) (by omega)) ?_
  refine Ev.bind (ref_Upper_ev s (by omega)) ?_
  refine Ev.bind (filter_Matches_ev _ t (by omega) (by omega)) ?_
  simp only [bl_mk, m1, beq_self_eq_true, ↓reduceIte]
  refine Ev.bind (ref_Upper_ev t (by omega)) ?_
  refine Ev.bind (filter_Matches_ev s _ (by omega) (by omega)) ?_
  simp only [bl_mk, m2, beq_self_eq_true, ↓reduceIte]
  refine Ev.bind (ref_Upper_ev s (by omega)) (Ev.bind (ref_Lower_ev t (by omega)) ?_)
  refine Ev.bind (filter_MatchesExtended_ev _ _ (by omega) (by omega)) ?_
  simp only [bl_mk, m3, beq_self_eq_true, ↓reduceIte]
  refine Ev.bind (ref_Lower_ev s (by omega)) (Ev.bind (ref_Upper_ev t (by omega)) ?_)
  refine Ev.bind (filter_MatchesExtended_ev _ _ (by omega) (by omega)) ?_
  simp only [bl_mk, m4, beq_self_eq_true]
  exact Ev.now _
end Go.Proofs.Ytanahbcdilcmoaa.Iso
namespace Go.Proofs.Ytanahbcdilcmoaa.Pure
open Go.RowKit Go.Proofs.Ytanahbcdilcmoaa.P Go.Proofs.YtanahbcdilcmoaaW.PrintWords
theorem FilterCases : isoglosslaw20_FilterCases.Pure := fun s t _ _ => (Iso.FilterCases_pure s t).rounds
end Go.Proofs.Ytanahbcdilcmoaa.Pure
