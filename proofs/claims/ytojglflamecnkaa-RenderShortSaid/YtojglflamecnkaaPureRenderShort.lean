/- The law RenderShort, in plain words. No condition. -/
import Derived.Test.YtojglflamecnkaaEvRT
import Derived.Test.YtojglflamecnkaaPx24
namespace Go.Proofs.Ytojglflamecnkaa.Iso
set_option linter.unusedSimpArgs false
set_option linter.unusedVariables false
set_option linter.unusedSectionVars false
open Go Go.RowKit Go.Proofs.YtojglflamecnkaaW.PrintWords Go.Proofs.Ytojglflamecnkaa.P
theorem and63 (x : Int) : 0 ≤ bits .and .i64 x 63 ∧ bits .and .i64 x 63 ≤ 63 := by
  have e : bits .and .i64 x 63 = IntKind.wrap .i64 (((BitVec.ofInt 64 x &&& BitVec.ofInt 64 63).toNat : Nat) : Int) := rfl
  have h : (BitVec.ofInt 64 x &&& BitVec.ofInt 64 63).toNat ≤ 63 := by
    rw [BitVec.toNat_and]
    exact Nat.le_trans Nat.and_le_right (by decide)
  rw [e]
  generalize (BitVec.ofInt 64 x &&& BitVec.ofInt 64 63).toNat = n at h
  have : IntKind.wrap .i64 (n : Int) = (n : Int) := by
    exact (show ∀ m : Fin 64, IntKind.wrap .i64 (m.val : Int) = (m.val : Int) from by decide +kernel) ⟨n, by omega⟩
  omega
theorem goS_fit (n : Int) (L : List Str) : ∀ d i, ((joinL (L.take i)).length : Int) ≤ n → ((joinL (L.take (goS n L d i))).length : Int) ≤ n
  | 0, i, h => h
  | d + 1, i, h => by
    unfold goS
    by_cases c : ((joinL (L.take (i + 1))).length : Int) ≤ n
    · rw [if_pos c]; exact goS_fit n L d (i + 1) c
    · rw [if_neg c]; exact h
theorem goS_all (n : Int) (L : List Str) (h : ∀ i, ((joinL (L.take i)).length : Int) ≤ n) : ∀ d i, goS n L d i = i + d
  | 0, i => rfl
  | d + 1, i => by
    unfold goS
    rw [if_pos (h (i + 1)), goS_all n L h d (i + 1)]
    omega
theorem take_take_le (L : List Str) {a b : Nat} (h : a ≤ b) : (joinL (L.take a)).length ≤ (joinL (L.take b)).length := by
  have := joinL_len_take (L.take b) a
  rwa [List.take_take, Nat.min_eq_left h] at this
theorem backS_last (L : List Str) : ∀ k, 1 < backS L k → (L.getD (backS L k - 1) []).length ≠ 1
  | 0, h => by unfold backS at h; omega
  | 1, h => by unfold backS at h; omega
  | k + 2, h => by
    unfold backS at h ⊢
    by_cases c : (L.getD (k + 1) []).length = 1
    · rw [if_pos c] at h ⊢; exact backS_last L (k + 1) h
    · rw [if_neg c]; exact c
theorem backS_all (L : List Str) (k : Nat) : backS L k = k ∨ 1 < k ∧ (L.getD (k - 1) []).length = 1 := by
  match k with
  | 0 => exact Or.inl rfl
  | 1 => exact Or.inl rfl
  | k + 2 =>
    unfold backS
    by_cases c : (L.getD (k + 1) []).length = 1
    · exact Or.inr ⟨by omega, c⟩
    · rw [if_neg c]; exact Or.inl rfl
/-- Each text of a row is there, and bears no sign. -/
def GoodL (L : List Str) : Prop := ∀ p ∈ L, p ≠ [] ∧ noDash p
section
variable {L : List Str} (g : GoodL L)
include g
theorem good_take (m : Nat) : GoodL (L.take m) := fun p hp => g p (List.mem_of_mem_take hp)
theorem case_good (hne : L ≠ []) : caseS (joinL L) = joinL (cR false true L) := by
  unfold caseS
  rw [split_joinL L hne (fun p hp => (g p hp).2)]
theorem case_begins (m : Nat) (h0 : 0 < m) (h1 : m < L.length) : ∃ rest, caseS (joinL L) = caseS (joinL (L.take m)) ++ 45 :: rest := by
  have hne : L ≠ [] := fun e => by rw [e] at h1; simp at h1
  have ht : L.take m ≠ [] := fun e => by have := congrArg List.length e; rw [List.length_take, List.length_nil] at this; omega
  have hd : L.drop m ≠ [] := fun e => by have := congrArg List.length e; rw [List.length_drop, List.length_nil] at this; omega
  rw [case_good g hne, case_good (good_take g m) ht]
  conv => enter [1, rest, 1, 1]; rw [← List.take_append_drop m L]
  rw [cR_append _ _ _ _ ht, joinL_app _ _ (cR_ne _ _ ht) (cR_ne _ _ hd)]
  exact ⟨_, rfl⟩
theorem split_short (m : Nat) (h0 : 0 < m) (h1 : m ≤ L.length) : split (caseS (joinL (L.take m))) = cR false true (L.take m) := by
  have ht : L.take m ≠ [] := fun e => by have := congrArg List.length e; rw [List.length_take, List.length_nil] at this; omega
  rw [split_caseS, split_joinL _ ht (fun p hp => (good_take g m p hp).2)]
end
theorem cR_last : ∀ (s f : Bool) (ps : List Str) (i : Nat), ((cR s f ps).getD i []).length = (ps.getD i []).length
  | _, _, [], i => by simp [cR]
  | s, f, p :: ps, 0 => by simp [cR, c1_length]
  | s, f, p :: ps, i + 1 => by
    have := cR_last (s || decide (p.length = 1)) false ps i
    simp only [cR, List.getD_cons_succ]
    exact this
section
variable {T : TG} (f : FewS T) (h : TxtS T) (g : GoodL (textsT T))
include f h g
theorem rs_tail (r : Bool) (hr : shortS ((caseS (textT T)).length : Int) (textsT T) = caseS (textT T) ∨ 1 < (textsT T).length ∧ ((textsT T).getD ((textsT T).length - 1) []).length = 1) :
    Ev (fun k => (render_Short.f k T.lang T.ext T.script T.region T.vars T.exts T.priv T.grand ((mk (caseS (textT T))).size : Int)).bind fun t => (if t.toList = (mk (caseS (textT T))).toList then (some true) else (if ((subsT T).length : Int) > 1 then (if 0 ≤ (wrap64 (((subsT T).length : Int) - 1)) then (if (wrap64 (((subsT T).length : Int) - 1)) < ((subsT T).length : Int) then (some (((rdOf ByteArray.empty (subsT T) (wrap64 (((subsT T).length : Int) - 1))).size : Int) == 1)) else (none)) else (none)) else (some false)))) true := by
  obtain ⟨b1, b2⟩ := texts_bound f h
  rw [mk_size]
  refine Ev.bind (short_ev f h _) ?_
  by_cases c : shortS ((caseS (textT T)).length : Int) (textsT T) = caseS (textT T)
  · simp only [c, if_true]
    exact Ev.now _
  · obtain ⟨h1, h2⟩ := hr.resolve_left c
    have hl : (subsT T).length = (textsT T).length := (List.length_map _).symm
    have hw : wrap64 (((subsT T).length : Int) - 1) = (((textsT T).length - 1 : Nat) : Int) := by unfold wrap64; omega
    have hz := sz_at (textsT T) b1 b2 ((textsT T).length - 1) (by omega)
    rw [textsT_mk] at hz
    have hne : ¬ ((mk (shortS ((caseS (textT T)).length : Int) (textsT T))).toList = (mk (caseS (textT T))).toList) := by rw [mk_toList, mk_toList]; exact c
    simp only [hne, if_false, show (((subsT T).length : Int) > 1) from by omega, if_true, hw, show (0 : Int) ≤ (((textsT T).length - 1 : Nat) : Int) from by omega, show ((((textsT T).length - 1 : Nat) : Int) < ((subsT T).length : Int)) from by omega, hz, h2]
    exact Ev.now _
theorem rs_j0 (n : Int) (hn : 0 ≤ n) : Ev (fun k => isoglosslaw08_RenderShort.j0 k true (mk (caseS (textT T))) (mk (shortS n (textsT T))) false T.lang T.ext T.script T.region T.vars T.exts T.priv T.grand) true := by
  obtain ⟨b1, b2⟩ := texts_bound f h
  have hm : cutS n (textsT T) ≤ (textsT T).length := Nat.le_trans (backS_le _ _) (by have := goS_le n (textsT T) (textsT T).length 0; omega)
  have hs : (mk (shortS n (textsT T))).size ≤ 4398046511104 := by
    rw [mk_size]
    unfold shortS
    rw [caseS_length]
    exact Nat.le_trans (joinL_len_take _ _) b2
  have hr : shortS ((caseS (textT T)).length : Int) (textsT T) = caseS (textT T) ∨ 1 < (textsT T).length ∧ ((textsT T).getD ((textsT T).length - 1) []).length = 1 := by
    have e : goS ((caseS (textT T)).length : Int) (textsT T) (textsT T).length 0 = (textsT T).length := by
      rw [goS_all _ _ (fun i => ?_), Nat.zero_add]
      rw [caseS_length]
      have : (joinL ((textsT T).take i)).length ≤ (joinL (textsT T)).length := joinL_len_take _ _
      exact Int.ofNat_le.2 this
    rcases backS_all (textsT T) (textsT T).length with e2 | e2
    · refine Or.inl ?_
      unfold shortS cutS
      rw [e, e2, List.take_length]
    · exact Or.inr e2
  have tail := rs_tail f h g true hr
  have hsp : ∃ q, split (shortS n (textsT T)) = q ∧ q ≠ [] ∧ (q.length = 1 ∨ 1 < (q.getD (q.length - 1) []).length) := by
    refine ⟨_, rfl, split_ne _, ?_⟩
    by_cases h0 : cutS n (textsT T) = 0
    · refine Or.inl ?_
      unfold shortS
      rw [h0]
      rfl
    · unfold shortS
      rw [split_short g _ (by omega) hm, cR_length, List.length_take, Nat.min_eq_left hm, cR_last]
      by_cases h1 : cutS n (textsT T) = 1
      · exact Or.inl h1
      · refine Or.inr ?_
        have h2 := backS_last (textsT T) (goS n (textsT T) (textsT T).length 0) (by have e : backS (textsT T) (goS n (textsT T) (textsT T).length 0) = cutS n (textsT T) := rfl; omega)
        have e : backS (textsT T) (goS n (textsT T) (textsT T).length 0) = cutS n (textsT T) := rfl
        rw [e] at h2
        have hlt : cutS n (textsT T) - 1 < (textsT T).length := by omega
        have hg : ((textsT T).take (cutS n (textsT T))).getD (cutS n (textsT T) - 1) [] = (textsT T).getD (cutS n (textsT T) - 1) [] := by
          rw [List.getD_eq_getElem?_getD, List.getD_eq_getElem?_getD, List.getElem?_take_of_lt (by omega)]
        rw [hg]
        have he : (textsT T).getD (cutS n (textsT T) - 1) [] = (textsT T)[cutS n (textsT T) - 1] := by
          rw [List.getD_eq_getElem?_getD, List.getElem?_eq_getElem hlt]; rfl
        have hp := (g _ (List.getElem_mem hlt)).1
        rw [he] at h2 ⊢
        have := List.length_pos_iff.2 hp
        omega
  obtain ⟨q, hq, hq0, hq1⟩ := hsp
  have hql : 0 < q.length := List.length_pos_iff.2 hq0
  have hqb : q.length ≤ 4398046511105 := by
    have := split_length (shortS n (textsT T))
    rw [hq] at this
    rw [mk_size] at hs
    omega
  have hw : wrap64 ((q.length : Int) - 1) = ((q.length - 1 : Nat) : Int) := by unfold wrap64; omega
  have hz : (rdOf ByteArray.empty (q.map mk) ((q.length - 1 : Nat) : Int)).size = (q.getD (q.length - 1) []).length := by
    have hp : q[q.length - 1]? = some (q[q.length - 1]'(by omega)) := List.getElem?_eq_getElem (by omega)
    rw [getMk q _ _ hp, mk_size, List.getD_eq_getElem?_getD, hp]; rfl
  have hS := ref_Split_ev (mk (shortS n (textsT T))) hs
  rw [bl_mk, hq] at hS
  refine Ev.succ ?_
  simp only [isoglosslaw08_RenderShort.j0, Bool.false_eq_true, if_false]
  refine Ev.bind hS ?_
  simp only [List.length_map, hw, show (0 : Int) ≤ ((q.length - 1 : Nat) : Int) from by omega, show (((q.length - 1 : Nat) : Int) < (q.length : Int)) from by omega, if_true, hz]
  refine Ev.bind f.ref ?_
  by_cases c : (q.length : Int) = 1
  · simp only [c, if_true]
    exact tail
  · have c2 : (((q.getD (q.length - 1) []).length : Int) > 1) := by
      rcases hq1 with e | e
      · omega
      · omega
    simp only [c, c2, if_false, if_true]
    exact tail
theorem rs_all (n : Int) (hn : 0 ≤ n) : (shortS n (textsT T)).length ≤ (caseS (textT T)).length ∧ ((shortS n (textsT T)).length : Int) ≤ n ∧ (caseS (textT T)).take (shortS n (textsT T)).length = shortS n (textsT T) ∧
    (shortS n (textsT T) ≠ [] → (shortS n (textsT T)).length < (caseS (textT T)).length → (caseS (textT T))[(shortS n (textsT T)).length]? = some 45) := by
  have hm : cutS n (textsT T) ≤ (textsT T).length := Nat.le_trans (backS_le _ _) (by have := goS_le n (textsT T) (textsT T).length 0; omega)
  have hl : (shortS n (textsT T)).length ≤ (caseS (textT T)).length := by
    unfold shortS
    rw [caseS_length, caseS_length]
    exact joinL_len_take _ _
  have hf : ((shortS n (textsT T)).length : Int) ≤ n := by
    have h1 := goS_fit n (textsT T) (textsT T).length 0 (by simpa [joinL] using hn)
    have h2 := take_take_le (textsT T) (backS_le (textsT T) (goS n (textsT T) (textsT T).length 0))
    unfold shortS
    rw [caseS_length]
    have e : backS (textsT T) (goS n (textsT T) (textsT T).length 0) = cutS n (textsT T) := rfl
    rw [e] at h2
    omega
  by_cases h0 : cutS n (textsT T) = 0
  · have e : shortS n (textsT T) = [] := by unfold shortS; rw [h0]; rfl
    exact ⟨hl, hf, by rw [e]; rfl, fun hne => absurd e hne⟩
  by_cases h1 : cutS n (textsT T) = (textsT T).length
  · have e : shortS n (textsT T) = caseS (textT T) := by unfold shortS; rw [h1, List.take_length]
    exact ⟨hl, hf, by rw [e, List.take_length], fun _ hlt => by rw [e] at hlt; omega⟩
  · obtain ⟨rest, hrest⟩ := case_begins g (cutS n (textsT T)) (by omega) (by omega)
    have e : caseS (textT T) = shortS n (textsT T) ++ 45 :: rest := hrest
    refine ⟨hl, hf, ?_, fun _ _ => ?_⟩
    · rw [e, List.take_left']
      rfl
    · rw [e, List.getElem?_append_right (Nat.le_refl _), Nat.sub_self]
      rfl
end
end Go.Proofs.Ytojglflamecnkaa.Iso
namespace Go.Proofs.Ytojglflamecnkaa.Pure
open Go Go.RowKit Go.Proofs.Ytojglflamecnkaa.P Go.Proofs.YtojglflamecnkaaW.PrintWords Go.Proofs.Ytojglflamecnkaa.Iso
theorem RenderShort (p0 p1 p2 p3 : Int) (pl4 pl5 pl6 : List Int) (p7 : Int) (n : Int) {u : Prop} (_ : u) :
    ∃ k, isoglosslaw08_RenderShort.f k p0 p1 p2 p3 pl4 pl5 pl6 p7 n = some true := by
  obtain ⟨_, ha, A, hA, rfl⟩ := Made_told p0 p1 p2 p3 pl4 pl5 pl6 p7
  have f := hA.fewS (oddN p7)
  have h := baseT_txtS hA (oddN p7)
  obtain ⟨T, hT⟩ : ∃ T, T = spoiltT A (oddN p7) := ⟨_, rfl⟩
  have g : GoodL (textsT T) := by
    intro p hp
    obtain ⟨s, hs, rfl⟩ := List.mem_map.1 hp
    rw [hT] at hs
    exact baseT_subs (fun s => bl s ≠ [] ∧ noDash (bl s)) (by
      intro s hs
      have e : (allL.all fun s => !(bl s).isEmpty && (bl s).all fun c => c != 45) = true := by decide
      have := List.all_eq_true.1 e s hs
      obtain ⟨h1, h2⟩ := Bool.and_eq_true_iff.1 this
      refine ⟨fun e => by rw [e] at h1; simp at h1, fun c hc e => ?_⟩
      have := List.all_eq_true.1 h2 c hc
      rw [e] at this
      simp at this) hA (oddN p7) s hs
  rw [← hT] at ha f h
  obtain ⟨n0, n1⟩ := and63 n
  obtain ⟨N, hN⟩ : ∃ N, N = bits .and .i64 n 63 := ⟨_, rfl⟩
  rw [← hN] at n0 n1
  obtain ⟨a1, a2, a3, a4⟩ := rs_all f h g N n0
  have hj := rs_j0 f h g N n0
  have hev : Ev (fun k => isoglosslaw08_RenderShort.f k p0 p1 p2 p3 pl4 pl5 pl6 p7 n) true := by
    unfold isoglosslaw08_RenderShort.f
    simp only [law08_awake_eq, Option.bind_some]
    refine Ev.bind ha ?_
    simp only [string_eq f h, Option.bind_some]
    rw [← hN]
    refine Ev.bind (short_ev f h N) ?_
    have e1 : ¬ (((mk (shortS N (textsT T))).size : Int) > ((mk (caseS (textT T))).size : Int)) := by rw [mk_size, mk_size]; omega
    have e2 : ¬ (((mk (shortS N (textsT T))).size : Int) > N) := by rw [mk_size]; omega
    have e3 : (0 : Int) ≤ ((mk (shortS N (textsT T))).size : Int) := by omega
    have e4 : ((mk (shortS N (textsT T))).size : Int) ≤ ((mk (caseS (textT T))).size : Int) := by omega
    have e5 : ((mk (caseS (textT T))).extract 0 (mk (shortS N (textsT T))).size).toList = (mk (shortS N (textsT T))).toList := by
      rw [bl_toList, bl_extract, bl_mk, mk_toList, mk_size, List.drop_zero, Nat.sub_zero, a3]
    simp only [e1, e2, e3, e4, e5, if_false, if_true]
    by_cases c : shortS N (textsT T) = []
    · have e6 : (mk (shortS N (textsT T))).toList = ([] : List UInt8) := by rw [mk_toList]; exact c
      simp only [e6, if_true]
      exact hj
    · have e6 : ¬ ((mk (shortS N (textsT T))).toList = ([] : List UInt8)) := by rw [mk_toList]; exact c
      simp only [e6, if_false]
      by_cases c2 : ((mk (shortS N (textsT T))).size : Int) < ((mk (caseS (textT T))).size : Int)
      · have hlt : (shortS N (textsT T)).length < (caseS (textT T)).length := by rw [mk_size, mk_size] at c2; omega
        have a5 := a4 c hlt
        have hb : bt (mk (caseS (textT T))) ((mk (shortS N (textsT T))).size : Int) = 45 := by
          rw [mk_size]
          have hd : (bl (mk (caseS (textT T)))).drop (shortS N (textsT T)).length = 45 :: (caseS (textT T)).drop ((shortS N (textsT T)).length + 1) := by
            rw [bl_mk, List.drop_eq_getElem_cons hlt]
            congr 1
            have := List.getElem?_eq_getElem hlt
            rw [a5] at this
            exact (Option.some.inj this).symm
          exact (drop_at hd).2.1
        simp only [c2, if_true, hb]
        exact hj
      · simp only [c2, if_false]
        exact hj
  exact hev.rounds
end Go.Proofs.Ytojglflamecnkaa.Pure
