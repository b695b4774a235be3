/- The document's Right, in plain words. No condition. -/
import Derived.Test.YtljadeeoaoiilaaGreatDoorHandRp
import Derived.Test.YtljadeeoaoiilaaGreatDoorEvTxt
import Derived.Test.YtljadeeoaoiilaaGreatDoorHandFind
import Derived.Test.YtljadeeoaoiilaaGreatDoorPx17
namespace Go.Proofs.YtljadeeoaoiilaaGreatDoor.Iso
open Go Go.RowKit Go.Proofs.YtljadeeoaoiilaaGreatDoorW.PrintWords Go.Proofs.YtljadeeoaoiilaaGreatDoor.P
set_option linter.unusedVariables false
set_option linter.unusedSimpArgs false
theorem drop_cons {α : Type} {X : List α} {i : Nat} {p : α} {t : List α} (h : X.drop i = p :: t) : i < X.length ∧ X[i]? = some p ∧ X.drop (i + 1) = t := by
  have hl := congrArg List.length h
  rw [List.length_drop, List.length_cons] at hl
  refine ⟨by omega, ?_, ?_⟩
  · have := congrArg (·[0]?) h
    simpa using this
  · rw [← List.drop_drop, h]; rfl
theorem rd_some {X : List ByteArray} {i : Nat} {p : ByteArray} (h : X[i]? = some p) : rdOf ByteArray.empty X (i : Int) = p := by
  unfold rdOf
  rw [Int.toNat_natCast, List.getD_eq_getElem?_getD, h]; rfl
theorem rdX_some {X : List S40} {i : Nat} {p : S40} (h : X[i]? = some p) : rd_T40 X (i : Int) = p := by
  unfold rd_T40
  rw [Int.toNat_natCast, List.getD_eq_getElem?_getD, h]; rfl
theorem toL (a b : ByteArray) : (a.toList = b.toList) ↔ bl a = bl b := by
  rw [Go.ByteArray.toList_eq, Go.ByteArray.toList_eq]; exact Iff.rfl
theorem toL_nil (a : ByteArray) : (a.toList = ([] : List UInt8)) ↔ a = ⟨#[]⟩ := by
  rw [Go.ByteArray.toList_eq]
  constructor
  · intro h; exact bl_inj (show bl a = bl ⟨#[]⟩ from h)
  · intro h; rw [h]
def lowOk (s : ByteArray) : Bool := decide (bl s = low (bl s))
def subOk (m : Nat) (s : ByteArray) : Bool := isSub (bl s) && decide (m ≤ s.size)
theorem subs_l0 (X : List ByteArray) (m : Nat) (hn : X.length ≤ 1000000) (hs : ∀ s ∈ X, s.size ≤ 1000000) (t : List ByteArray) : ∀ i : Nat, X.drop i = t → i ≤ X.length → Ev (fun k => r6_subs.l0 k X (m : Int) (i : Int)) (t.all (subOk m)) := by
  induction t with
  | nil =>
    intro i h h2
    have g := List.drop_eq_nil_iff.1 h
    refine Ev.succ ?_
    simp only [r6_subs.l0, show ¬ ((i : Int) < (X.length : Int)) from by omega, ↓reduceIte]
    exact Ev.now _
  | cons p t ih =>
    intro i h h2
    obtain ⟨hl, hp, hd⟩ := drop_cons h
    refine Ev.succ ?_
    simp only [r6_subs.l0, show ((i : Int) < (X.length : Int)) from by omega, show (0 : Int) ≤ (i : Int) from by omega, rd_some hp, wrap_lt hl (by omega), ↓reduceIte]
    refine Ev.bind (ref_Sub_ev p (by have := hs p (List.mem_of_getElem? hp); omega)) ?_
    rw [List.all_cons]
    rw [show subOk m p = (isSub (bl p) && decide (m ≤ p.size)) from rfl]
    cases c : isSub (bl p) with
    | true =>
      simp only [↓reduceIte, Bool.true_and]
      by_cases d : (p.size : Int) < (m : Int)
      · simp only [d, ↓reduceIte]
        rw [decide_eq_false (by omega), Bool.false_and]; exact Ev.now _
      · simp only [d, ↓reduceIte]
        rw [decide_eq_true (by omega), Bool.true_and]; exact ih (i + 1) hd (by omega)
    | false => simp only [↓reduceIte, Bool.false_eq_true, Bool.false_and]; exact Ev.now _
theorem subs_ev (X : List ByteArray) (m : Nat) (hn : X.length ≤ 1000000) (hs : ∀ s ∈ X, s.size ≤ 1000000) : Ev (fun k => r6_subs.f k X (m : Int)) (X.all (subOk m)) := subs_l0 X m hn hs X 0 rfl (by omega)
section
variable (T : TG)
theorem small_l0 (X : List ByteArray) (hn : X.length ≤ 1000000) (hs : ∀ s ∈ X, s.size ≤ 1000000) (hg : T.grand.size ≤ 1000000) (t : List ByteArray) : ∀ i : Nat, X.drop i = t → i ≤ X.length →
    Ev (fun k => r6_small.l0 k X (i : Int) T.lang T.ext T.script T.region T.vars T.exts T.priv T.grand) (t.all lowOk && lowOk T.grand) := by
  induction t with
  | nil =>
    intro i h h2
    have g := List.drop_eq_nil_iff.1 h
    refine Ev.succ ?_
    simp only [r6_small.l0, show ¬ ((i : Int) < (X.length : Int)) from by omega, ↓reduceIte]
    refine Ev.bind (ref_Lower_ev _ (by omega)) (Ev.val (Ev.now _) ?_)
    rw [List.all_nil, Bool.true_and]
    unfold lowOk
    rw [Bool.eq_iff_iff, beq_iff_eq, decide_eq_true_eq]
    exact toL _ _
  | cons p t ih =>
    intro i h h2
    obtain ⟨hl, hp, hd⟩ := drop_cons h
    refine Ev.succ ?_
    simp only [r6_small.l0, show ((i : Int) < (X.length : Int)) from by omega, show (0 : Int) ≤ (i : Int) from by omega, rd_some hp, wrap_lt hl (by omega), ↓reduceIte]
    refine Ev.bind (ref_Lower_ev p (by have := hs p (List.mem_of_getElem? hp); omega)) ?_
    rw [List.all_cons]
    by_cases c : p.toList = (mk (low (bl p))).toList
    · simp only [c, ↓reduceIte]
      rw [show lowOk p = true from decide_eq_true ((toL _ _).1 c), Bool.true_and]
      exact ih (i + 1) hd (by omega)
    · simp only [c, ↓reduceIte]
      rw [show lowOk p = false from decide_eq_false (fun e => c ((toL _ _).2 e))]
      exact Ev.now _
def smallT : Bool := ((subsT T) ++ [T.lang, T.script, T.region]).all lowOk && lowOk T.grand
theorem small_ev (f : FewS T) (ht : TxtS T) (hsub : ∀ s ∈ subsT T, s.size ≤ 1000000) : Ev (fun k => r6_small.f k T.lang T.ext T.script T.region T.vars T.exts T.priv T.grand) (smallT T) := by
  unfold r6_small.f
  refine Ev.bind f.ref ?_
  have h := f.small
  simp only [Option.bind_some]
  refine Ev.congr (f := fun k => r6_small.l0 k (subsT T ++ [T.lang, T.script, T.region]) 0 T.lang T.ext T.script T.region T.vars T.exts T.priv T.grand) (fun k => by rw [if_pos (by simp; omega)]) ?_
  refine small_l0 T _ (by simp; omega) (fun s hs => ?_) (by have := ht.grand; omega) _ 0 rfl (by omega)
  rcases List.mem_append.1 hs with hs | hs
  · exact hsub s hs
  · simp only [List.mem_cons, List.not_mem_nil, or_false] at hs
    rcases hs with rfl | rfl | rfl
    · have := ht.lang; omega
    · have := ht.script; omega
    · have := ht.region; omega
def varsB (pre : List ByteArray) : List ByteArray → Bool
  | [] => true
  | v :: t => isVar (bl v) && pre.all (fun u => decide (bl u ≠ bl v)) && varsB (pre ++ [v]) t
def keysB (pre : List S40) : List S40 → Bool
  | [] => true
  | x :: t => isSing (bl x.f0) && pre.all (fun u => decide (bl u.f0 ≠ bl x.f0)) && (x.f1.all (subOk 2) && !x.f1.isEmpty) && keysB (pre ++ [x]) t
def rowsT : Bool := varsB [] T.vars && (keysB [] T.exts && T.priv.all (subOk 1))
theorem bne_toL (a b : ByteArray) : (a.toList != b.toList) = decide (bl a ≠ bl b) := by
  rw [Bool.eq_iff_iff, bne_iff_ne, decide_eq_true_eq]
  exact not_congr (toL a b)
theorem drop_app {α : Type} (pre t : List α) (j : Nat) (u : α) (h : (pre ++ t)[j]? = some u) (hj : j < pre.length) : pre.drop j = u :: pre.drop (j + 1) := by
  rw [List.getElem?_append_left hj] at h
  obtain ⟨_, e⟩ := List.getElem?_eq_some_iff.1 h
  rw [List.drop_eq_getElem_cons hj, e]
theorem rows_l1 (pre t : List ByteArray) (v : ByteArray) (hX : T.vars = pre ++ v :: t) (hn : T.vars.length ≤ 1000000) (r : Bool) (hr : Ev (fun k => r6_rows.l0 k ((pre.length + 1 : Nat) : Int) T.lang T.ext T.script T.region T.vars T.exts T.priv T.grand) r) :
    ∀ (d j : Nat) (ok : Bool), d + j = pre.length → Ev (fun k => r6_rows.l1 k (pre.length : Int) ok (j : Int) T.lang T.ext T.script T.region T.vars T.exts T.priv T.grand) (ok && (pre.drop j).all (fun u => decide (bl u ≠ bl v)) && r)
  | 0, j, ok, hj => by
    have e : j = pre.length := by omega
    subst e
    have hlen : pre.length < T.vars.length := by rw [hX]; simp
    refine Ev.succ ?_
    simp only [r6_rows.l1, show ¬ ((pre.length : Int) < (pre.length : Int)) from by omega, ↓reduceIte, wrap_lt hlen (by omega), List.drop_length, List.all_nil, Bool.and_true]
    cases ok with
    | true => simp only [↓reduceIte, Bool.true_and]; exact hr
    | false => simp only [↓reduceIte, Bool.false_eq_true, Bool.false_and]; exact Ev.now _
  | d + 1, j, ok, hj => by
    have hlt : j < pre.length := by omega
    have hlen : pre.length < T.vars.length := by rw [hX]; simp
    obtain ⟨u, hu⟩ : ∃ u, T.vars[j]? = some u := ⟨_, List.getElem?_eq_getElem (by omega)⟩
    have hv : T.vars[pre.length]? = some v := by rw [hX]; simp
    have hd := drop_app pre (v :: t) j u (by rw [← hX]; exact hu) hlt
    refine Ev.succ ?_
    simp only [r6_rows.l1, show (j : Int) < (pre.length : Int) from by omega, show (0 : Int) ≤ (j : Int) from by omega, show (j : Int) < (T.vars.length : Int) from by omega, show (0 : Int) ≤ (pre.length : Int) from by omega, show (pre.length : Int) < (T.vars.length : Int) from by omega, rd_some hu, rd_some hv, wrap_lt (show j < T.vars.length from by omega) (by omega), ↓reduceIte]
    rw [hd, List.all_cons]
    cases ok with
    | true =>
      simp only [↓reduceIte]
      rw [bne_toL]
      exact Ev.val (rows_l1 pre t v hX hn r hr d (j + 1) _ (by omega)) (by rw [Bool.true_and])
    | false =>
      simp only [↓reduceIte, Bool.false_eq_true]
      exact Ev.val (rows_l1 pre t v hX hn r hr d (j + 1) false (by omega)) (by simp)
theorem rows_l0 (hn : T.vars.length ≤ 1000000) (hs : ∀ s ∈ T.vars, s.size ≤ 1000000) (r : Bool) (hr : Ev (fun k => r6_rows.l2 k 0 T.lang T.ext T.script T.region T.vars T.exts T.priv T.grand) r) :
    ∀ (t pre : List ByteArray), T.vars = pre ++ t → Ev (fun k => r6_rows.l0 k (pre.length : Int) T.lang T.ext T.script T.region T.vars T.exts T.priv T.grand) (varsB pre t && r)
  | [], pre, hX => by
    have hl : T.vars.length = pre.length := by rw [hX]; simp
    refine Ev.succ ?_
    simp only [r6_rows.l0, show ¬ ((pre.length : Int) < (T.vars.length : Int)) from by omega, ↓reduceIte]
    unfold varsB
    rw [Bool.true_and]; exact hr
  | v :: t, pre, hX => by
    have hlen : pre.length < T.vars.length := by rw [hX]; simp
    have hv : T.vars[pre.length]? = some v := by rw [hX]; simp
    have ih := rows_l0 hn hs r hr t (pre ++ [v]) (by rw [hX]; simp)
    rw [List.length_append, show [v].length = 1 from rfl] at ih
    refine Ev.succ ?_
    simp only [r6_rows.l0, show ((pre.length : Int) < (T.vars.length : Int)) from by omega, show (0 : Int) ≤ (pre.length : Int) from by omega, rd_some hv, ↓reduceIte]
    refine Ev.bind (ref_Variant_ev v (by have := hs v (List.mem_of_getElem? hv); omega)) ?_
    refine Ev.val (rows_l1 T pre t v hX hn _ ih pre.length 0 (isVar (bl v)) (by omega)) ?_
    rw [List.drop_zero, varsB]
    simp only [Bool.and_assoc]
theorem rows_l3 (pre t : List S40) (v : S40) (hX : T.exts = pre ++ v :: t) (hn : T.exts.length ≤ 1000000) (q : Bool) (r : Bool) (hr : Ev (fun k => r6_rows.l2 k ((pre.length + 1 : Nat) : Int) T.lang T.ext T.script T.region T.vars T.exts T.priv T.grand) r) :
    ∀ (d j : Nat) (ok : Bool), d + j = pre.length → Ev (fun k => r6_rows.l3 k (pre.length : Int) ok q (j : Int) T.lang T.ext T.script T.region T.vars T.exts T.priv T.grand) (ok && (pre.drop j).all (fun u => decide (bl u.f0 ≠ bl v.f0)) && (q && !v.f1.isEmpty) && r)
  | 0, j, ok, hj => by
    have e : j = pre.length := by omega
    subst e
    have hlen : pre.length < T.exts.length := by rw [hX]; simp
    have hv : T.exts[pre.length]? = some v := by rw [hX]; simp
    refine Ev.succ ?_
    simp only [r6_rows.l3, show ¬ ((pre.length : Int) < (pre.length : Int)) from by omega, show (0 : Int) ≤ (pre.length : Int) from by omega, show (pre.length : Int) < (T.exts.length : Int) from by omega, rdX_some hv, ↓reduceIte, wrap_lt hlen (by omega), List.drop_length, List.all_nil, Bool.and_true]
    cases ok with
    | true =>
      cases q with
      | true =>
        simp only [↓reduceIte, Bool.true_and]
        cases hf : v.f1 with
        | nil => simp only [List.length_nil, Int.natCast_zero, ↓reduceIte, List.isEmpty_nil, Bool.not_true, Bool.false_and]; exact Ev.now _
        | cons a b => simp only [List.length_cons, show ¬ (((b.length + 1 : Nat) : Int) = 0) from by omega, ↓reduceIte, List.isEmpty_cons, Bool.not_false, Bool.true_and]; exact hr
      | false => simp only [↓reduceIte, Bool.false_eq_true, Bool.false_and, Bool.and_false]; exact Ev.now _
    | false => simp only [↓reduceIte, Bool.false_eq_true, Bool.false_and]; exact Ev.now _
  | d + 1, j, ok, hj => by
    have hlt : j < pre.length := by omega
    have hlen : pre.length < T.exts.length := by rw [hX]; simp
    obtain ⟨u, hu⟩ : ∃ u, T.exts[j]? = some u := ⟨_, List.getElem?_eq_getElem (by omega)⟩
    have hv : T.exts[pre.length]? = some v := by rw [hX]; simp
    have hd := drop_app pre (v :: t) j u (by rw [← hX]; exact hu) hlt
    refine Ev.succ ?_
    simp only [r6_rows.l3, show (j : Int) < (pre.length : Int) from by omega, show (0 : Int) ≤ (j : Int) from by omega, show (j : Int) < (T.exts.length : Int) from by omega, show (0 : Int) ≤ (pre.length : Int) from by omega, show (pre.length : Int) < (T.exts.length : Int) from by omega, rdX_some hu, rdX_some hv, wrap_lt (show j < T.exts.length from by omega) (by omega), ↓reduceIte]
    rw [hd, List.all_cons]
    cases ok with
    | true =>
      simp only [↓reduceIte]
      rw [bne_toL]
      exact Ev.val (rows_l3 pre t v hX hn q r hr d (j + 1) _ (by omega)) (by rw [Bool.true_and])
    | false =>
      simp only [↓reduceIte, Bool.false_eq_true]
      exact Ev.val (rows_l3 pre t v hX hn q r hr d (j + 1) false (by omega)) (by simp)
theorem rows_l2 (hn : T.exts.length ≤ 1000000) (hk : ∀ x ∈ T.exts, x.f0.size ≤ 1000000) (hl : ∀ x ∈ T.exts, x.f1.length ≤ 1000000) (hs : ∀ x ∈ T.exts, ∀ s ∈ x.f1, s.size ≤ 1000000) (hp : T.priv.length ≤ 1000000) (hps : ∀ s ∈ T.priv, s.size ≤ 1000000) :
    ∀ (t pre : List S40), T.exts = pre ++ t → Ev (fun k => r6_rows.l2 k (pre.length : Int) T.lang T.ext T.script T.region T.vars T.exts T.priv T.grand) (keysB pre t && T.priv.all (subOk 1))
  | [], pre, hX => by
    have hl : T.exts.length = pre.length := by rw [hX]; simp
    refine Ev.succ ?_
    simp only [r6_rows.l2, show ¬ ((pre.length : Int) < (T.exts.length : Int)) from by omega, ↓reduceIte]
    unfold keysB
    rw [Bool.true_and]
    exact Ev.bind (subs_ev T.priv 1 hp hps) (Ev.now _)
  | v :: t, pre, hX => by
    have hlen : pre.length < T.exts.length := by rw [hX]; simp
    have hv : T.exts[pre.length]? = some v := by rw [hX]; simp
    have hm : v ∈ T.exts := List.mem_of_getElem? hv
    have ih := rows_l2 hn hk hl hs hp hps t (pre ++ [v]) (by rw [hX]; simp)
    rw [List.length_append, show [v].length = 1 from rfl] at ih
    refine Ev.succ ?_
    simp only [r6_rows.l2, show ((pre.length : Int) < (T.exts.length : Int)) from by omega, show (0 : Int) ≤ (pre.length : Int) from by omega, rdX_some hv, ↓reduceIte]
    refine Ev.bind (ref_Singleton_ev v.f0 (by have := hk v hm; omega)) (Ev.bind (subs_ev v.f1 2 (hl v hm) (hs v hm)) ?_)
    refine Ev.val (rows_l3 T pre t v hX hn _ _ ih pre.length 0 (isSing (bl v.f0)) (by omega)) ?_
    rw [List.drop_zero, keysB]
    simp only [Bool.and_assoc]
theorem rows_ev (f : FewS T) (ht : TxtS T) : Ev (fun k => r6_rows.f k T.lang T.ext T.script T.region T.vars T.exts T.priv T.grand) (rowsT T) := by
  have h1 := f.vars
  have h2 := f.exts
  have h3 := f.priv
  refine rows_l0 T (by omega) (fun s hs => by have := ht.vars s hs; omega) _ ?_ T.vars [] rfl
  exact rows_l2 T (by omega) (fun x hx => by have := ht.keys x hx; omega) (fun x hx => by have := f.subs x hx; omega) (fun x hx s hs => by have := ht.subs x hx s hs; omega) (by omega) (fun s hs => by have := ht.priv s hs; omega) T.exts [] rfl
end
def findAt (s : Str) : Nat → List Str → Int
  | _, [] => -1
  | i, n :: t => if low s = n then (i : Int) else findAt s (i + 1) t
theorem find_l0 (s : ByteArray) (hs : s.size ≤ 140737488355328) (X : List ByteArray) (hn : X.length ≤ 1000000) :
    ∀ (N : List Str) (t : List ByteArray) (i : Nat), X.drop i = t → i ≤ X.length → t.map r5_Name.f = N.map (fun n => some (mk n)) → Ev (fun k => r5_Find.l0 k s X (i : Int)) (findAt (bl s) i N)
  | [], t, i, h, h2, e => by
    have ht : t = [] := by simpa using e
    rw [ht] at h
    have g := List.drop_eq_nil_iff.1 h
    refine Ev.succ ?_
    simp only [r5_Find.l0, show ¬ ((i : Int) < (X.length : Int)) from by omega, ↓reduceIte]
    exact Ev.now _
  | n :: N, [], i, h, h2, e => by cases e
  | n :: N, p :: t, i, h, h2, e => by
    obtain ⟨hl, hp, hd⟩ := drop_cons h
    rw [List.map_cons, List.map_cons] at e
    obtain ⟨e1, e2⟩ := List.cons.inj e
    refine Ev.succ ?_
    simp only [r5_Find.l0, show ((i : Int) < (X.length : Int)) from by omega, show (0 : Int) ≤ (i : Int) from by omega, rd_some hp, wrap_lt hl (by omega), e1, Option.bind_some, ↓reduceIte]
    refine Ev.bind (ref_Lower_ev s hs) ?_
    unfold findAt
    by_cases c : low (bl s) = n
    · have g : (mk (low (bl s))).toList = (mk n).toList := (toL _ _).2 (by rw [bl_mk, bl_mk]; exact c)
      simp only [g, ↓reduceIte]
      rw [if_pos c]; exact Ev.now _
    · have g : ¬ ((mk (low (bl s))).toList = (mk n).toList) := fun h => c (by have := (toL _ _).1 h; rwa [bl_mk, bl_mk] at this)
      simp only [g, ↓reduceIte]
      rw [if_neg c]
      exact find_l0 s hs X hn N t (i + 1) hd (by omega) e2
def isName (s : Str) : Bool := nameL.contains (low s)
theorem findAt_sign (s : Str) : ∀ (N : List Str) (i : Nat), (decide (0 ≤ findAt s i N) = N.contains (low s)) ∧ (decide (findAt s i N < 0) = !N.contains (low s))
  | [], i => ⟨by rfl, by rfl⟩
  | n :: N, i => by
    unfold findAt
    rw [List.contains_cons]
    by_cases c : low s = n
    · rw [if_pos c, c, beq_self_eq_true, Bool.true_or]
      exact ⟨decide_eq_true (by omega), decide_eq_false (by omega)⟩
    · rw [if_neg c, beq_eq_false_iff_ne.2 c, Bool.false_or]
      exact findAt_sign s N (i + 1)
theorem find_ev (s : ByteArray) (hs : s.size ≤ 140737488355328) : ∃ z : Int, Ev (fun k => r5_Find.f k s) z ∧ decide (z ≥ 0) = isName (bl s) ∧ decide (z < 0) = !isName (bl s) := by
  obtain ⟨L, hL⟩ : ∃ L, r5_List.f = some L := ⟨_, rfl⟩
  have hm : (r5_List.f).map (fun L => L.map r5_Name.f) = some (nameL.map fun n => some (mk n)) := by decide +kernel
  rw [hL] at hm
  have hm2 := Option.some.inj hm
  have hl : L.length = 26 := by have := congrArg List.length hm2; rwa [List.length_map, List.length_map] at this
  refine ⟨findAt (bl s) 0 nameL, ?_, (findAt_sign (bl s) nameL 0).1, (findAt_sign (bl s) nameL 0).2⟩
  unfold r5_Find.f
  rw [hL]
  simp only [Option.bind_some]
  exact find_l0 s hs L (by omega) nameL L 0 rfl (by omega) hm2
section
variable (T : TG)
abbrev extAll : Bool := T.ext.all (fun s => isExtl (bl s))
theorem ref_Ext_ev (s : ByteArray) (hn : s.size ≤ 140737488355328) : Ev (fun k => r6_Extlang.f k s) (isExtl (bl s)) :=
  Ev.bind (ref_letters_ev s hn 3 3) (Ev.val (Ev.now _) (by unfold isExtl; congr 1; exact decide_eq_decide.2 ⟨fun h => by omega, fun h => by omega⟩))
theorem right_l0 (f : FewS T) (ht : TxtS T) (hx : (textT T).length ≤ 1000000) (t : List ByteArray) : ∀ i : Nat, T.ext.drop i = t → i ≤ T.ext.length →
    Ev (fun k => r6_Right.l0 k (i : Int) T.lang T.ext T.script T.region T.vars T.exts T.priv T.grand) (t.all (fun s => isExtl (bl s)) && !isName (textT T)) := by
  have hn := f.ext
  induction t with
  | nil =>
    intro i h h2
    have g := List.drop_eq_nil_iff.1 h
    obtain ⟨z, hz, _, h3⟩ := find_ev (mk (textT T)) (by rw [mk_size]; omega)
    refine Ev.succ ?_
    simp only [r6_Right.l0, show ¬ ((i : Int) < (T.ext.length : Int)) from by omega, ↓reduceIte]
    refine Ev.bind f.ref (Ev.bind (fewS_joined f ht) (Ev.bind hz (Ev.val (Ev.now _) ?_)))
    rw [List.all_nil, Bool.true_and, h3, bl_mk]
  | cons p t ih =>
    intro i h h2
    obtain ⟨hl, hp, hd⟩ := drop_cons h
    refine Ev.succ ?_
    simp only [r6_Right.l0, show ((i : Int) < (T.ext.length : Int)) from by omega, show (0 : Int) ≤ (i : Int) from by omega, rd_some hp, wrap_lt hl (by omega), ↓reduceIte]
    refine Ev.bind (ref_Ext_ev p (by have := ht.ext p (List.mem_of_getElem? hp); omega)) ?_
    rw [List.all_cons]
    by_cases c : isExtl (bl p) = true
    · simp only [c, ↓reduceIte]
      rw [Bool.true_and]; exact ih (i + 1) hd (by omega)
    · simp only [c, ↓reduceIte, Bool.false_eq_true, Bool.false_and]; exact Ev.now _
theorem right_j3 (f : FewS T) (ht : TxtS T) (hx : (textT T).length ≤ 1000000) (b : Bool) : Ev (fun k => r6_Right.j3 k b T.lang T.ext T.script T.region T.vars T.exts T.priv T.grand) (!b && (extAll T && !isName (textT T))) := by
  refine Ev.succ ?_
  cases b with
  | true => simp only [r6_Right.j3, ↓reduceIte, Bool.not_true, Bool.false_and]; exact Ev.now _
  | false => simp only [r6_Right.j3, ↓reduceIte, Bool.false_eq_true, Bool.not_false, Bool.true_and]; exact right_l0 T f ht hx T.ext 0 rfl (by omega)
def extFit : Bool := decide (T.ext.length ≤ 3) && (T.ext.isEmpty || decide (T.lang.size ≤ 3))
theorem right_j2 (f : FewS T) (ht : TxtS T) (hx : (textT T).length ≤ 1000000) (x6 x7 x8 : Bool) : Ev (fun k => r6_Right.j2 k x6 x7 x8 T.lang T.ext T.script T.region T.vars T.exts T.priv T.grand) (x6 && x7 && x8 && rowsT T && extFit T && (extAll T && !isName (textT T))) := by
  refine Ev.succ ?_
  simp only [r6_Right.j2]
  refine Ev.bind (rows_ev T f ht) ?_
  have J := right_j3 T f ht hx
  cases x6 with
  | false => exact Ev.val (J true) (by simp)
  | true =>
    cases x7 with
    | false => exact Ev.val (J true) (by simp)
    | true =>
      cases x8 with
      | false => exact Ev.val (J true) (by simp)
      | true =>
        cases rowsT T with
        | false => exact Ev.val (J true) (by simp)
        | true =>
          simp only [↓reduceIte, Bool.true_and]
          unfold extFit
          by_cases c : (T.ext.length : Int) > 3
          · simp only [c, ↓reduceIte]
            exact Ev.val (J true) (by rw [decide_eq_false (by omega)]; simp)
          · simp only [c, ↓reduceIte, decide_eq_true (show T.ext.length ≤ 3 from by omega), Bool.true_and]
            by_cases d : (T.ext.length : Int) > 0
            · simp only [d, ↓reduceIte]
              refine Ev.val (J _) ?_
              have he : T.ext.isEmpty = false := by
                cases hh : T.ext with
                | nil => rw [hh] at d; simp at d
                | cons a b => rfl
              rw [he, Bool.false_or]
              congr 1
              rw [← decide_not]
              exact decide_eq_decide.2 (by omega)
            · simp only [d, ↓reduceIte]
              have he : T.ext.isEmpty = true := by
                rw [List.isEmpty_iff]
                exact List.eq_nil_of_length_eq_zero (by omega)
              exact Ev.val (J false) (by rw [he]; simp)
abbrev scrOk : Bool := decide (T.script = ⟨#[]⟩) || isScr (bl T.script)
abbrev regOk : Bool := decide (T.region = ⟨#[]⟩) || isReg (bl T.region)
theorem right_j1 (f : FewS T) (ht : TxtS T) (hx : (textT T).length ≤ 1000000) (x6 x7 : Bool) : Ev (fun k => r6_Right.j1 k x6 x7 T.lang T.ext T.script T.region T.vars T.exts T.priv T.grand) (x6 && x7 && regOk T && rowsT T && extFit T && (extAll T && !isName (textT T))) := by
  refine Ev.succ ?_
  simp only [r6_Right.j1]
  unfold regOk
  by_cases c : T.region = ⟨#[]⟩
  · simp only [(toL_nil T.region).2 c, ↓reduceIte, decide_eq_true c, Bool.true_or]
    exact right_j2 T f ht hx x6 x7 true
  · simp only [show ¬ (T.region.toList = ([] : List UInt8)) from fun h => c ((toL_nil _).1 h), ↓reduceIte, decide_eq_false c, Bool.false_or]
    exact Ev.bind (ref_Region_ev T.region (by have := ht.region; omega)) (right_j2 T f ht hx x6 x7 _)
def bodyT : Bool := isLang (bl T.lang) && scrOk T && regOk T && rowsT T && extFit T && (extAll T && !isName (textT T))
theorem right_j0 (f : FewS T) (ht : TxtS T) (hx : (textT T).length ≤ 1000000) (p : Bool) : Ev (fun k => r6_Right.j0 k p T.lang T.ext T.script T.region T.vars T.exts T.priv T.grand)
    (if T.grand = ⟨#[]⟩ then (if T.lang = ⟨#[]⟩ then p && !T.priv.isEmpty && T.priv.all (subOk 1) else bodyT T) else p && T.priv.isEmpty && isName (bl T.grand)) := by
  refine Ev.succ ?_
  simp only [r6_Right.j0]
  have hp := f.priv
  by_cases c : T.grand = ⟨#[]⟩
  · rw [if_pos c]
    simp only [(toL_nil T.grand).2 c, ↓reduceIte]
    by_cases d : T.lang = ⟨#[]⟩
    · rw [if_pos d]
      simp only [(toL_nil T.lang).2 d, ↓reduceIte]
      refine Ev.bind (subs_ev T.priv 1 (by omega) (fun s hs => by have := ht.priv s hs; omega)) ?_
      cases p with
      | false => simp only [↓reduceIte, Bool.false_eq_true, Bool.false_and]; exact Ev.now _
      | true =>
        simp only [↓reduceIte, Bool.true_and]
        cases hh : T.priv with
        | nil => exact Ev.now _
        | cons a b =>
          simp only [List.length_cons, show (((b.length + 1 : Nat) : Int) > 0) from by omega, ↓reduceIte, List.isEmpty_cons, Bool.not_false, Bool.true_and]
          exact Ev.now _
    · rw [if_neg d]
      simp only [show ¬ (T.lang.toList = ([] : List UInt8)) from fun h => d ((toL_nil _).1 h), ↓reduceIte]
      refine Ev.bind (ref_Language_ev T.lang (by have := ht.lang; omega)) ?_
      unfold bodyT scrOk
      by_cases e : T.script = ⟨#[]⟩
      · simp only [(toL_nil T.script).2 e, ↓reduceIte, decide_eq_true e, Bool.true_or]
        exact right_j1 T f ht hx _ true
      · simp only [show ¬ (T.script.toList = ([] : List UInt8)) from fun h => e ((toL_nil _).1 h), ↓reduceIte, decide_eq_false e, Bool.false_or]
        exact Ev.bind (ref_Script_ev T.script (by have := ht.script; omega)) (right_j1 T f ht hx _ _)
  · rw [if_neg c]
    simp only [show ¬ (T.grand.toList = ([] : List UInt8)) from fun h => c ((toL_nil _).1 h), ↓reduceIte]
    cases p with
    | false => simp only [↓reduceIte, Bool.false_eq_true, Bool.false_and]; exact Ev.now _
    | true =>
      simp only [↓reduceIte, Bool.true_and]
      cases hh : T.priv with
      | nil =>
        obtain ⟨z, hz, h3, _⟩ := find_ev T.grand (by have := ht.grand; omega)
        simp only [List.length_nil, Int.natCast_zero, ↓reduceIte, List.isEmpty_nil, Bool.true_and]
        exact Ev.bind hz (Ev.val (Ev.now _) h3)
      | cons a b =>
        simp only [List.length_cons, show ¬ (((b.length + 1 : Nat) : Int) = 0) from by omega, ↓reduceIte, List.isEmpty_cons, Bool.false_and]
        exact Ev.now _
def plainT : Bool := decide (T.lang = ⟨#[]⟩) && (T.ext.isEmpty && (decide (T.script = ⟨#[]⟩) && (decide (T.region = ⟨#[]⟩) && (T.vars.isEmpty && T.exts.isEmpty))))
def rightT : Bool := smallT T && (if T.grand = ⟨#[]⟩ then (if T.lang = ⟨#[]⟩ then plainT T && !T.priv.isEmpty && T.priv.all (subOk 1) else bodyT T) else plainT T && T.priv.isEmpty && isName (bl T.grand))
theorem len_zero {α : Type} (l : List α) : ((l.length : Int) = 0) ↔ l.isEmpty = true := by
  rw [List.isEmpty_iff]
  constructor
  · intro h; exact List.eq_nil_of_length_eq_zero (by omega)
  · intro h; rw [h]; rfl
theorem right_ev (f : FewS T) (ht : TxtS T) (hx : (textT T).length ≤ 1000000) (hsub : ∀ s ∈ subsT T, s.size ≤ 1000000) : Ev (fun k => r6_Right.f k T.lang T.ext T.script T.region T.vars T.exts T.priv T.grand) (rightT T) := by
  unfold r6_Right.f rightT
  refine Ev.bind (small_ev T f ht hsub) ?_
  have J := right_j0 T f ht hx
  cases smallT T with
  | false => simp only [↓reduceIte, Bool.false_eq_true, Bool.false_and]; exact Ev.now _
  | true =>
    simp only [↓reduceIte, Bool.true_and]
    unfold plainT
    by_cases c1 : T.lang = ⟨#[]⟩
    · simp only [(toL_nil T.lang).2 c1, ↓reduceIte]
      rw [decide_eq_true c1, Bool.true_and]
      by_cases c2 : T.ext.isEmpty = true
      · simp only [(len_zero T.ext).2 c2, ↓reduceIte]
        rw [c2, Bool.true_and]
        by_cases c3 : T.script = ⟨#[]⟩
        · simp only [(toL_nil T.script).2 c3, ↓reduceIte]
          rw [decide_eq_true c3, Bool.true_and]
          by_cases c4 : T.region = ⟨#[]⟩
          · simp only [(toL_nil T.region).2 c4, ↓reduceIte]
            rw [decide_eq_true c4, Bool.true_and]
            by_cases c5 : T.vars.isEmpty = true
            · simp only [(len_zero T.vars).2 c5, ↓reduceIte]
              rw [c5, Bool.true_and]
              have e : (((T.exts.length : Int) == 0) : Bool) = T.exts.isEmpty := by
                rw [Bool.eq_iff_iff, beq_iff_eq]; exact len_zero _
              rw [e]; exact J _
            · have g : ¬ ((T.vars.length : Int) = 0) := fun h => c5 ((len_zero _).1 h)
              simp only [g, ↓reduceIte]
              rw [Bool.eq_false_iff.2 c5, Bool.false_and]; exact J _
          · have g : ¬ (T.region.toList = ([] : List UInt8)) := fun h => c4 ((toL_nil _).1 h)
            simp only [g, ↓reduceIte]
            rw [decide_eq_false c4, Bool.false_and]; exact J _
        · have g : ¬ (T.script.toList = ([] : List UInt8)) := fun h => c3 ((toL_nil _).1 h)
          simp only [g, ↓reduceIte]
          rw [decide_eq_false c3, Bool.false_and]; exact J _
      · have g : ¬ ((T.ext.length : Int) = 0) := fun h => c2 ((len_zero _).1 h)
        simp only [g, ↓reduceIte]
        rw [Bool.eq_false_iff.2 c2, Bool.false_and]; exact J _
    · have g : ¬ (T.lang.toList = ([] : List UInt8)) := fun h => c1 ((toL_nil _).1 h)
      simp only [g, ↓reduceIte]
      rw [decide_eq_false c1, Bool.false_and]; exact J _
end
end Go.Proofs.YtljadeeoaoiilaaGreatDoor.Iso
