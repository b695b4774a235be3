/- What render.Case comes to, in plain words. Conditions: texts have at most 2^42 bytes. -/
import Derived.Test.YtojglflamecnkaaEvC
import Derived.Lib.Join
import Derived.Test.YtojglflamecnkaaPx4
namespace Go.Proofs.Ytojglflamecnkaa.Iso
set_option linter.unusedSimpArgs false
set_option linter.unusedVariables false
open Go Go.RowKit Go.Proofs.YtojglflamecnkaaW.PrintWords Go.Proofs.Ytojglflamecnkaa.P
theorem libJoin : ∀ (ps : List Str), Lib.join ps [45] = joinL ps
  | [] => rfl
  | [p] => by rw [Lib.join_one]; simp [joinL, tailJ]
  | p :: q :: t => by
    have ih := libJoin (q :: t)
    unfold Lib.join at ih ⊢
    rw [List.intercalate_cons_cons, ih]
    simp [joinL, tailJ]
def c1 (s fst : Bool) (p : Str) : Str := if !fst && !s then (if p.length = 2 then up (low p) else if p.length = 4 then title (low p) else low p) else low p
def cR : Bool → Bool → List Str → List Str
  | _, _, [] => []
  | s, f, p :: t => c1 (s || decide (p.length = 1)) f p :: cR (s || decide (p.length = 1)) false t
def caseS (s : Str) : Str := joinL (cR false true (split s))
theorem mapIdx_const (f : UInt8 → UInt8) (l : Str) : l.mapIdx (fun _ c => f c) = l.map f := by
  induction l with
  | nil => rfl
  | cons c t ih => rw [List.mapIdx_cons, List.map_cons]; congr 1
theorem bl_lowB (p : ByteArray) : bl (lowB p) = low (bl p) := by unfold lowB; rw [bl_mk, mapIdx_const]; rfl
theorem bl_upB (p : ByteArray) : bl (upB p) = up (bl p) := by unfold upB; rw [bl_mk, mapIdx_const]; rfl
theorem bl_tiB (p : ByteArray) : bl (tiB p) = title (bl p) := by
  unfold tiB
  rw [bl_mk]
  cases bl p with
  | nil => rfl
  | cons c t =>
    rw [List.mapIdx_cons]
    have e : t.mapIdx (fun i c => if i + 1 = 0 then upC c else lowC c) = t.map lowC := by
      rw [← mapIdx_const lowC t]
      congr 1
    rw [e]
    rfl
theorem caseOne_bl (s : Bool) (n : Nat) (p : ByteArray) : bl (caseOne s (n, p)) = c1 s (decide (n = 0)) (bl p) := by
  unfold caseOne c1
  have hz : (lowB p).size = (bl p).length := by rw [lowB_size, bl_len]
  rw [hz]
  by_cases hn : n = 0
  · subst hn
    simp [bl_lowB]
  · cases s
    · simp only [hn, show 0 < n from by omega, decide_false, Bool.not_false, Bool.and_self, and_self, ↓reduceIte]
      by_cases h2 : (bl p).length = 2
      · simp only [h2, ↓reduceIte, bl_upB, bl_lowB]
      · by_cases h4 : (bl p).length = 4
        · simp only [h2, h4, ↓reduceIte, bl_tiB, bl_lowB, show ¬ ((4 : Nat) = 2) from by omega]
        · simp only [h2, h4, ↓reduceIte, bl_lowB]
    · simp [bl_lowB]
theorem oneB_bl (x : Nat × ByteArray) : oneB x = decide ((bl x.2).length = 1) := by unfold oneB; rw [bl_len]
theorem caseRun_bl : ∀ (t : Str) (a : Nat) (acc : Str) (s : Bool), (caseRun s ((eachGo a acc t).map fun p => (p.1, mk p.2))).map bl = cR s (decide (a = 0)) (sp acc t)
  | [], a, acc, s => by
    simp only [eachGo, sp, List.map_cons, List.map_nil, caseRun, cR, oneB_bl, bl_mk, caseOne_bl]
  | c :: t, a, acc, s => by
    unfold eachGo sp
    by_cases h : c = 45
    · rw [if_pos h, if_pos h, List.map_cons, caseRun, List.map_cons, caseRun_bl t]
      simp only [cR, oneB_bl, bl_mk, caseOne_bl]
      rw [decide_eq_false (show ¬ (a + acc.length + 1 = 0) from by omega)]
    · rw [if_neg h, if_neg h, caseRun_bl t]
theorem caseRun_is (a0 : ByteArray) : (caseRun false (eachB a0)).map bl = cR false true (split (bl a0)) := by
  unfold eachB each
  rw [caseRun_bl, split_sp, decide_eq_true rfl]
theorem title_low (p : Str) : low (title p) = low p := by
  cases p with
  | nil => rfl
  | cons c t =>
    have h1 : lowC (upC c) = lowC c := of_decide_eq_true (byte_all (fun c => decide (lowC (upC c) = lowC c)) (by decide +kernel) c)
    have h2 := low_low t
    unfold low at h2
    simp only [title, low, List.map_cons, h1, h2]
theorem c1_low (s f : Bool) (p : Str) : low (c1 s f p) = low p := by
  unfold c1
  repeat' split
  all_goals simp only [up_low, title_low, low_low]
theorem c1_length (s f : Bool) (p : Str) : (c1 s f p).length = p.length := by
  have := congrArg List.length (c1_low s f p)
  rwa [low_length, low_length] at this
theorem cR_low : ∀ (s f : Bool) (ps : List Str), (cR s f ps).map low = ps.map low
  | _, _, [] => rfl
  | s, f, p :: ps => by simp only [cR, List.map_cons, c1_low, cR_low]
theorem cR_ne (s f : Bool) {ps : List Str} (h : ps ≠ []) : cR s f ps ≠ [] := by
  cases ps with
  | nil => exact absurd rfl h
  | cons p ps => simp [cR]
theorem noDash_low (p : Str) : noDash (low p) ↔ noDash p := by
  constructor
  · intro h c hc e
    subst e
    exact h 45 (List.mem_map.2 ⟨45, hc, by decide⟩) rfl
  · intro h c hc e
    obtain ⟨d, hd, hd2⟩ := List.mem_map.1 hc
    rw [e] at hd2
    exact h d hd ((lowC_dash d).1 hd2)
theorem noDash_of_low {p q : Str} (h : low p = low q) (hq : noDash q) : noDash p := (noDash_low p).1 (h ▸ (noDash_low q).2 hq)
theorem cR_noDash (s f : Bool) (ps : List Str) (h : ∀ p ∈ ps, noDash p) : ∀ p ∈ cR s f ps, noDash p := by
  induction ps generalizing s f with
  | nil => intro p hp; cases hp
  | cons q ps ih =>
    intro p hp
    simp only [cR] at hp
    rcases List.mem_cons.1 hp with rfl | hp
    · exact noDash_of_low (c1_low _ _ _) (h q List.mem_cons_self)
    · exact ih _ _ (fun r hr => h r (List.mem_cons_of_mem _ hr)) p hp
theorem low_tailJ : ∀ ps : List Str, low (tailJ ps) = tailJ (ps.map low)
  | [] => rfl
  | p :: ps => by
    have ih := low_tailJ ps
    unfold low at ih ⊢
    simp only [tailJ, List.map_cons, List.map_append, ih]
    rfl
theorem low_joinL (ps : List Str) : low (joinL ps) = joinL (ps.map low) := by
  cases ps with
  | nil => rfl
  | cons p ps =>
    have := low_tailJ ps
    unfold low at this ⊢
    simp only [joinL, List.map_cons, List.map_append, this]
theorem split_caseS (s : Str) : split (caseS s) = cR false true (split s) :=
  split_joinL _ (cR_ne _ _ (split_ne s)) (cR_noDash _ _ _ (split_noDash s))
theorem caseS_low (s : Str) : low (caseS s) = low s := by
  unfold caseS
  rw [low_joinL, cR_low, ← low_joinL, join_split]
theorem caseS_length (s : Str) : (caseS s).length = s.length := by
  have := congrArg List.length (caseS_low s)
  rwa [low_length, low_length] at this
theorem cR_append : ∀ (s f : Bool) (ps qs : List Str), ps ≠ [] → cR s f (ps ++ qs) = cR s f ps ++ cR (s || ps.any fun p => decide (p.length = 1)) false qs
  | _, _, [], _, h => absurd rfl h
  | s, f, [p], qs, _ => by simp [cR]
  | s, f, p :: q :: ps, qs, _ => by
    have := cR_append (s || decide (p.length = 1)) false (q :: ps) qs (by simp)
    simp only [List.cons_append] at this
    simp only [List.cons_append, cR] at this ⊢
    rw [this]
    simp [Bool.or_assoc]
theorem joinL_app (ps qs : List Str) (h1 : ps ≠ []) (h2 : qs ≠ []) : joinL (ps ++ qs) = joinL ps ++ 45 :: joinL qs := by
  rw [joinL_append _ _ h1]
  cases qs with
  | nil => exact absurd rfl h2
  | cons q qs => rfl
theorem small_join (ps : List Str) (h : (joinL ps).length ≤ 4398046511104) (hl : ps.length ≤ 4398046511105) : split_Join.f (ps.map mk) = some (mk (joinL ps)) := by
  have e : (ps.map mk).map (fun x => x.data.toList) = ps := by
    rw [List.map_map]
    conv => rhs; rw [← List.map_id ps]
    exact List.map_congr_left fun p _ => bl_mk p
  have e2 : (⟨#[45]⟩ : ByteArray).data.toList = [45] := rfl
  unfold split_Join.f strings_Join.f
  rw [e, e2, libJoin, if_pos ⟨by rw [List.length_map]; omega, by omega⟩]
  rfl
theorem case_eq (s : ByteArray) (hn : s.size ≤ 4398046511104) : render_Case.f s = some (mk (caseS (bl s))) := by
  unfold render_Case.f
  rw [if_pos (by omega)]
  have h := caseRun_is s
  have hm : caseRun false (eachB s) = (cR false true (split (bl s))).map mk := by
    rw [← h, List.map_map]
    conv => lhs; rw [← List.map_id (caseRun false (eachB s))]
    exact List.map_congr_left fun p _ => (mk_bl p).symm
  rw [hm]
  have hl : (cR false true (split (bl s))).length = (split (bl s)).length := by
    have := congrArg List.length (cR_low false true (split (bl s)))
    rwa [List.length_map, List.length_map] at this
  have h2 := split_length (bl s)
  rw [bl_len] at h2
  refine small_join _ ?_ (by omega)
  have := caseS_length (bl s)
  unfold caseS at this
  rw [this, bl_len]; exact hn
theorem law08_short_eq (s : ByteArray) : isoglosslaw08_short.f s = some (mk ((bl s).take 80)) := by
  unfold isoglosslaw08_short.f
  by_cases h : (s.size : Int) > 80
  · rw [if_pos h, if_pos (by omega), if_pos (by omega)]
    congr 1; apply bl_inj; rw [bl_extract, bl_mk]; simp
  · rw [if_neg h]
    congr 1; apply bl_inj; rw [bl_mk, List.take_of_length_le (by rw [bl_len]; omega)]
theorem mk_toList (l : Str) : (mk l).toList = l := by rw [bl_toList, bl_mk]
theorem law08_awake_eq : isoglosslaw08_awake.f = some true := by
  unfold isoglosslaw08_awake.f
  rw [case_eq _ (by decide), Option.bind_some, mk_toList, if_pos (by decide +kernel), case_eq _ (by decide), Option.bind_some, mk_toList, if_pos (by decide +kernel), case_eq _ (by decide), Option.bind_some, mk_toList]
  decide +kernel
end Go.Proofs.Ytojglflamecnkaa.Iso
