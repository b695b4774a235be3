/- What render.Case comes to, in plain words. Conditions: texts have at most 2^42 bytes. -/
import Derived.Test.YtojglflamecnkaaEvC
import Derived.Lib.Join
import Derived.Test.YtojglflamecnkaaPx4
namespace Go.Proofs.Ytojglflamecnkaa.Iso
set_option linter.unusedSimpArgs false
set_option linter.unusedVariables false
open Go Go.RowKit Go.Proofs.YtojglflamecnkaaW.PrintWords Go.Proofs.Ytojglflamecnkaa.P
theorem libJoin : ∀ (ps : List Str), Lib.join ps [45] = joinL ps
  | [] => rfl
  | [p] => by rw [Lib.join_one]; simp [joinL, tailJ]
  | p :: q :: t => by
    have ih := libJoin (q :: t)
    unfold Lib.join at ih ⊢
    rw [List.intercalate_cons_cons, ih]
    simp [joinL, tailJ]
def c1 (s fst : Bool) (p : Str) : Str := if !fst && !s then (if p.length = 2 then up (low p) else if p.length = 4 then title (low p) else low p) else low p
def cR : Bool → Bool → List Str → List Str
  | _, _, [] => []
  | s, f, p :: t => c1 (s || decide (p.length = 1)) f p :: cR (s || decide (p.length = 1)) false t
def caseS (s : Str) : Str := joinL (cR false true (split s))
theorem mapIdx_const (f : UInt8 → UInt8) (l : Str) : l.mapIdx (fun _ c => f c) = l.map f := by
  induction l with
  | nil => rfl
  | cons c t ih => rw [List.mapIdx_cons, List.map_cons]; congr 1
theorem bl_lowB (p : ByteArray) : bl (lowB p) = low (bl p) := by unfold lowB; rw [bl_mk, mapIdx_const]; rfl
theorem bl_upB (p : ByteArray) : bl (upB p) = up (bl p) := by unfold upB; rw [bl_mk, mapIdx_const]; rfl
theorem bl_tiB (p : ByteArray) : bl (tiB p) = title (bl p) := by
  unfold tiB
  rw [bl_mk]
  cases bl p with
  | nil => rfl
  | cons c t =>
    rw [List.mapIdx_cons]
    have e : t.mapIdx (fun i c => if i + 1 = 0 then upC c else lowC c) = t.map lowC := by
      rw [← mapIdx_const lowC t]
      congr 1
    rw [e]
    rfl
theorem caseOne_bl (s : Bool) (n : Nat) (p : ByteArray) : bl (caseOne s (n, p)) = c1 s (decide (n = 0)) (bl p) := by
  unfold caseOne c1
  have hz : (lowB p).size = (bl p).length := by rw [lowB_size, bl_len]
  rw [hz]
  by_cases hn : n = 0
  · subst hn
    simp [bl_lowB]
  · cases s
    · simp only [hn, show 0 < n from by omega, decide_false, Bool.not_false, Bool.and_self, and_self, ↓reduceIte]
      by_cases h2 : (bl p).length = 2
      · simp only [h2, ↓reduceIte, bl_upB, bl_lowB]
      · by_cases h4 : (bl p).length = 4
        · simp only [h2, h4, ↓reduceIte, bl_tiB, bl_lowB, show ¬ ((4 : Nat) = 2) from by omega]
        · simp only [h2, h4, ↓reduceIte, bl_lowB]
    · simp [bl_lowB]
theorem oneB_bl (x : Nat × ByteArray) : oneB x = decide ((bl x.2).length = 1) := by unfold oneB; rw [bl_len]
theorem caseRun_bl : ∀ (t : Str) (a : Nat) (acc : Str) (s : Bool), (caseRun s ((eachGo a acc t).map fun p => (p.1, mk p.2))).map bl = cR s (decide (a = 0)) (sp acc t)
  | [], a, acc, s => by
    simp only [eachGo, sp, List.map_cons, List.map_nil, caseRun, cR, oneB_bl, bl_mk, caseOne_bl]
  | c :: t, a, acc, s => by
    unfold eachGo sp
    by_cases h : c = 45
    · rw [if_pos h, if_pos h, List.map_cons, caseRun, List.map_cons, caseRun_bl t]
      simp only [cR, oneB_bl, bl_mk, caseOne_bl]
      rw [decide_eq_false (show ¬ (a + acc.length + 1 = 0) from by omega)]
    · rw [if_neg h, if_neg h, caseRun_bl t]
theorem caseRun_is (a0 : ByteArray) : (caseRun false (eachB a0)).map bl = cR false true (split (bl a0)) := by
  unfold eachB each
  rw [caseRun_bl, split_sp, decide_eq_true rfl]
theorem title_low (p : Str) : low (title p) = low p := by
  cases p with
  | nil => rfl
  | cons c t =>
    have h1 : lowC (upC c) = lowC c := of_decide_eq_true (byte_all (fun c => decide (lowC (upC c) = lowC c)) (by decide +kernel) c)
    have h2 := low_low t
    unfold low at h2
    simp only [title, low, List.map_cons, h1, h2]
theorem c1_low (s f : Bool) (p : Str) : low (c1 s f p) = low p := by
  unfold c1
  repeat' split
  all_goals simp only [up_low, title_low, low_low]
theorem cR_low : ∀ (s f : Bool) (ps : List Str), (cR s f ps).map low = ps.map low
  | _, _, [] => rfl
  | s, f, p :: ps => by simp only [cR, List.map_cons, c1_low, cR_low]
theorem low_tailJ : ∀ ps : List Str, low (tailJ ps) = tailJ (ps.map low)
  | [] => rfl
  | p :: ps => by
    have ih := low_tailJ ps
    unfold low at ih ⊢
    simp only [tailJ, List.map_cons, List.map_append, ih]
    rfl
theorem low_joinL (ps : List Str) : low (joinL ps) = joinL (ps.map low) := by
  cases ps with
  | nil => rfl
  | cons p ps =>
    have := low_tailJ ps
    unfold low at this ⊢
    simp only [joinL, List.map_cons, List.map_append, this]
theorem caseS_low (s : Str) : low (caseS s) = low s := by
  unfold caseS
  rw [low_joinL, cR_low, ← low_joinL, join_split]
theorem caseS_length (s : Str) : (caseS s).length = s.length := by
  have := congrArg List.length (caseS_low s)
  rwa [low_length, low_length] at this
theorem small_join (ps : List Str) (h : (joinL ps).length ≤ 4398046511104) (hl : ps.length ≤ 4398046511105) : split_Join.f (ps.map mk) = some (mk (joinL ps)) := by
  have e : (ps.map mk).map (fun x => x.data.toList) = ps := by
    rw [List.map_map]
    conv => rhs; rw [← List.map_id ps]
    exact List.map_congr_left fun p _ => bl_mk p
  have e2 : (⟨#[45]⟩ : ByteArray).data.toList = [45] := rfl
  unfold split_Join.f strings_Join.f
  rw [e, e2, libJoin, if_pos ⟨by rw [List.length_map]; omega, by omega⟩]
  rfl
theorem case_eq (s : ByteArray) (hn : s.size ≤ 4398046511104) : render_Case.f s = some (mk (caseS (bl s))) := by
  unfold render_Case.f
  rw [if_pos (by omega)]
  have h := caseRun_is s
  have hm : caseRun false (eachB s) = (cR false true (split (bl s))).map mk := by
    rw [← h, List.map_map]
    conv => lhs; rw [← List.map_id (caseRun false (eachB s))]
    exact List.map_congr_left fun p _ => (mk_bl p).symm
  rw [hm]
  have hl : (cR false true (split (bl s))).length = (split (bl s)).length := by
    have := congrArg List.length (cR_low false true (split (bl s)))
    rwa [List.length_map, List.length_map] at this
  have h2 := split_length (bl s)
  rw [bl_len] at h2
  refine small_join _ ?_ (by omega)
  have := caseS_length (bl s)
  unfold caseS at this
  rw [this, bl_len]; exact hn
theorem mk_toList (l : Str) : (mk l).toList = l := by rw [bl_toList, bl_mk]
theorem law08_awake_eq : isoglosslaw08_awake.f = some true := by
  unfold isoglosslaw08_awake.f
  rw [case_eq _ (by decide), Option.bind_some, mk_toList, if_pos (by decide +kernel), case_eq _ (by decide), Option.bind_some, mk_toList, if_pos (by decide +kernel), case_eq _ (by decide), Option.bind_some, mk_toList]
  decide +kernel
end Go.Proofs.Ytojglflamecnkaa.Iso
