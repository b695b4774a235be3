/- What the parser makes of a right tag's subtags: the tag. Plain words. -/
import Derived.Test.YtejnfbfikadpdaaGreatDoorHandAll
namespace Go.Proofs.YtejnfbfikadpdaaGreatDoor.P
open Go.RowKit Go.Proofs.YtejnfbfikadpdaaGreatDoorW.PrintWords Go.Proofs.YtejnfbfikadpdaaGreatDoor.Iso
set_option linter.unusedVariables false
set_option linter.unusedSimpArgs false
def okB (s : ByteArray) : Bool := decide (s.size ≤ 8) && Iso.alnum (bl s)
theorem hereB_ok {p : PieceR} {t : List PieceR} (h : okB p.f1 = true) : hereB (p :: t) = p.f1 := by
  unfold okB at h
  simp only [Bool.and_eq_true, decide_eq_true_eq] at h
  rw [hereB_cons, if_pos h]
theorem okB_ne {s : ByteArray} (h : okB s = true) : s.toList.isEmpty = false := by
  cases c : s.toList.isEmpty with
  | false => rfl
  | true =>
    rw [List.isEmpty_iff, bl_toList] at c
    unfold okB Iso.alnum at h
    rw [c] at h
    simp [cls] at h
theorem oneB_ok {q : ByteArray → Bool} {p : PieceR} {t : List PieceR} (h : okB p.f1 = true) : oneB q (p :: t) = q p.f1 := by
  unfold oneB
  rw [hereB_ok h, okB_ne h]; rfl
abbrev txs (ps : List PieceR) : List ByteArray := ps.map (·.f1)
def noneB (q : ByteArray → Bool) (ps : List PieceR) : Prop := oneB q ps = false
theorem noneB_ok {q : ByteArray → Bool} {p : PieceR} {t : List PieceR} (h : okB p.f1 = true) (hq : q p.f1 = false) : noneB q (p :: t) := by
  unfold noneB; rw [oneB_ok h]; exact hq
theorem noneB_nil {q : ByteArray → Bool} : noneB q [] := by
  unfold noneB oneB
  rw [show (hereB []).toList.isEmpty = true by simp [hereB, Go.ByteArray.toList_eq]]
  rfl
theorem rowL_app (q : ByteArray → Bool) : ∀ (A R : List PieceR), (∀ p ∈ A, okB p.f1 = true ∧ q p.f1 = true) → noneB q R → rowL q (A ++ R) = txs A ∧ rowT q (A ++ R) = R
  | [], R, _, hR => by
    rw [List.nil_append]
    exact rowL_no hR
  | p :: t, R, hA, hR => by
    obtain ⟨h1, h2⟩ := hA p (List.mem_cons_self)
    obtain ⟨i1, i2⟩ := rowL_app q t R (fun x hx => hA x (List.mem_cons_of_mem _ hx)) hR
    have ho : oneB q (p :: (t ++ R)) = true := by rw [oneB_ok h1]; exact h2
    constructor
    · rw [List.cons_append, rowL, if_pos ho, hereB_ok h1, i1]; rfl
    · rw [List.cons_append, rowT, if_pos ho, i2]
theorem isExtl_alnum {s : Str} (h : isExtl s = true) : Iso.alnum s = true ∧ s.length = 3 := by
  unfold isExtl alpha at h
  simp only [Bool.and_eq_true, decide_eq_true_eq] at h
  exact ⟨by unfold Iso.alnum; rw [h.1]; decide, h.2⟩
theorem extL_app : ∀ (A R : List PieceR) (n : Nat), A.length ≤ n → (∀ p ∈ A, okB p.f1 = true ∧ isExtl (bl p.f1) = true) → isExtl (bl (hereB R)) = false → extL n (A ++ R) = txs A ∧ extT n (A ++ R) = R
  | [], R, n, _, _, hR => by rw [List.nil_append]; exact extL_no hR
  | p :: t, R, 0, hn, _, _ => absurd hn (by simp)
  | p :: t, R, n + 1, hn, hA, hR => by
    obtain ⟨h1, h2⟩ := hA p (List.mem_cons_self)
    obtain ⟨i1, i2⟩ := extL_app t R n (by simpa using hn) (fun x hx => hA x (List.mem_cons_of_mem _ hx)) hR
    have h3 := extL_yes (n := n) (p := p) (t := t ++ R) (by rw [hereB_ok h1]; exact h2)
    rw [List.cons_append, h3.1, h3.2, hereB_ok h1, i1, i2]
    exact ⟨rfl, rfl⟩
theorem varR_app : ∀ (A R : List PieceR) (acc : List ByteArray), (∀ p ∈ A, okB p.f1 = true ∧ Iso.isVar (bl p.f1) = true) → (acc.map bl ++ (txs A).map bl).Nodup → noneB qVar R → varR acc (A ++ R) = (acc ++ txs A, R, false)
  | [], R, acc, _, _, hR => by
    rw [List.nil_append, varR_no hR]
    show _ = (acc ++ [], R, false)
    rw [List.append_nil]
  | p :: t, R, acc, hA, hd, hR => by
    obtain ⟨h1, h2⟩ := hA p (List.mem_cons_self)
    have hnm : ¬ (bl p.f1 ∈ acc.map bl) := fun hm => by
      have := (List.nodup_append.1 hd).2.2 _ hm (bl p.f1) (by show bl p.f1 ∈ bl p.f1 :: _; exact List.mem_cons_self)
      exact this rfl
    have ho : oneB (fun s => Iso.isVar (bl s)) (p :: (t ++ R)) = true := by rw [oneB_ok h1]; exact h2
    rw [List.cons_append, varR, if_pos ho, hereB_ok h1, if_neg hnm]
    rw [varR_app t R (acc ++ [p.f1]) (fun x hx => hA x (List.mem_cons_of_mem _ hx)) (by simpa [List.append_assoc] using hd) hR]
    rw [List.append_assoc]; rfl
structure ExtP (x : S47) (A : List PieceR) : Prop where
  tx : txs A = x.f0 :: x.f1
theorem extF_app : ∀ (xs : List S47) (A R : List PieceR) (n : Nat) (acc : List S47), (A ++ R).length ≤ n → txs A = xs.flatMap (fun x => x.f0 :: x.f1) →
    (∀ x ∈ xs, okB x.f0 = true ∧ Iso.isSing (bl x.f0) = true ∧ x.f1 ≠ [] ∧ ∀ s ∈ x.f1, okB s = true ∧ qTwo s = true) → (keysOf acc ++ keysOf xs).Nodup → noneB isSi R → noneB qTwo R → extF n acc (A ++ R) = (acc ++ xs, R, 0)
  | [], A, R, n, acc, hn, hA, _, _, hR, _ => by
    have : A = [] := by simpa using hA
    subst this
    rw [List.nil_append, extF_no hR, List.append_nil]
  | x :: xs, A, R, n, acc, hn, hA, hx, hd, hR, hR2 => by
    obtain ⟨k1, k2, k3, k4⟩ := hx x (List.mem_cons_self)
    rw [List.flatMap_cons, List.cons_append] at hA
    obtain ⟨p, A1, rfl, hp, hA1⟩ := List.map_eq_cons_iff.1 hA
    obtain ⟨A2, A3, rfl, hA2, hA3⟩ := List.map_eq_append_iff.1 hA1
    obtain ⟨m, rfl⟩ : ∃ m, n = m + 1 := ⟨n - 1, by simp at hn; omega⟩
    have ok2 : ∀ q ∈ A2, okB q.f1 = true ∧ qTwo q.f1 = true := fun q hq => k4 _ (by rw [← hA2]; exact List.mem_map_of_mem hq)
    have hnx : noneB qTwo (A3 ++ R) := by
      cases xs with
      | nil =>
        have : A3 = [] := by simpa using hA3
        rw [this, List.nil_append]; exact hR2
      | cons y ys =>
        rw [List.flatMap_cons, List.cons_append] at hA3
        obtain ⟨p3, A4, rfl, hp3, _⟩ := List.map_eq_cons_iff.1 hA3
        obtain ⟨y1, y2, _⟩ := hx y (by simp)
        refine noneB_ok (by rw [hp3]; exact y1) ?_
        rw [hp3]
        unfold Iso.isSing at y2
        simp only [Bool.and_eq_true, decide_eq_true_eq] at y2
        have := y2.1.2
        rw [bl_len] at this
        exact decide_eq_false (by omega)
    obtain ⟨r1, r2⟩ := rowL_app qTwo A2 (A3 ++ R) ok2 hnx
    have ho : oneB isSi (p :: (A2 ++ A3 ++ R)) = true := by
      rw [oneB_ok (by rw [hp]; exact k1)]
      show Iso.isSing (bl p.f1) = true
      rw [hp]; exact k2
    have hh : hereB (p :: (A2 ++ A3 ++ R)) = x.f0 := by rw [hereB_ok (by rw [hp]; exact k1), hp]
    have hnm : ¬ (bl x.f0 ∈ keysOf acc) := fun hm => by
      have := (List.nodup_append.1 hd).2.2 _ hm (bl x.f0) (by show bl x.f0 ∈ bl x.f0 :: _; exact List.mem_cons_self)
      exact this rfl
    have hne : ¬ ((rowL qTwo (A2 ++ A3 ++ R)).isEmpty = true) := by
      rw [List.append_assoc, r1, List.isEmpty_iff, show txs A2 = x.f1 from hA2]; exact k3
    rw [List.cons_append, extF, if_pos ho, hh, if_neg hnm, if_neg hne, List.append_assoc, r1, r2, show txs A2 = x.f1 from hA2]
    rw [extF_app xs A3 R m (acc ++ [x]) (by simp at hn ⊢; omega) hA3 (fun y hy => hx y (List.mem_cons_of_mem _ hy)) (by
      show (keysOf (acc ++ [x]) ++ keysOf xs).Nodup
      unfold keysOf at hd ⊢
      simpa [List.append_assoc] using hd) hR hR2]
    rw [List.append_assoc]; rfl
structure ShapeT (T : TG) : Prop where
  lang : okB T.lang = true ∧ Iso.isLang (bl T.lang) = true
  ext : T.ext.length ≤ 3 ∧ (∀ s ∈ T.ext, okB s = true ∧ isExtl (bl s) = true) ∧ (T.ext ≠ [] → T.lang.size ≤ 3)
  script : T.script = ⟨#[]⟩ ∨ okB T.script = true ∧ Iso.isScr (bl T.script) = true
  region : T.region = ⟨#[]⟩ ∨ okB T.region = true ∧ Iso.isReg (bl T.region) = true
  vars : (∀ s ∈ T.vars, okB s = true ∧ Iso.isVar (bl s) = true) ∧ (T.vars.map bl).Nodup
  exts : (∀ x ∈ T.exts, okB x.f0 = true ∧ Iso.isSing (bl x.f0) = true ∧ x.f1 ≠ [] ∧ ∀ s ∈ x.f1, okB s = true ∧ qTwo s = true) ∧ (keysOf T.exts).Nodup
def EndR (R : List PieceR) : Prop := R = [] ∨ bl (hereB R) = [120]
theorem endR_none {R : List PieceR} (h : EndR R) {q : ByteArray → Bool} (hq : q ⟨#[120]⟩ = false) : noneB q R := by
  rcases h with rfl | h
  · exact noneB_nil
  · unfold noneB oneB
    rw [x_eq h, hq, Bool.and_false]
theorem endR_extl {R : List PieceR} (h : EndR R) : isExtl (bl (hereB R)) = false := by
  rcases h with rfl | h
  · exact isExtl_nil
  · rw [h]; decide
abbrev opt1 (s : ByteArray) : List ByteArray := if s = ⟨#[]⟩ then [] else [s]
def headL (T : TG) : List ByteArray := T.lang :: (T.ext ++ (opt1 T.script ++ (opt1 T.region ++ (T.vars ++ T.exts.flatMap (fun x => x.f0 :: x.f1)))))
theorem lang_fits {T : TG} (h : ShapeT T) : ¬ (bl T.lang = [120]) := fun e => by
  have := h.lang.2
  rw [e] at this
  revert this; decide
theorem none_app {q : ByteArray → Bool} {A R : List PieceR} (hA : ∀ p ∈ A, okB p.f1 = true ∧ q p.f1 = false) (hR : noneB q R) : noneB q (A ++ R) := by
  cases A with
  | nil => exact hR
  | cons p t => exact noneB_ok (hA p List.mem_cons_self).1 (hA p List.mem_cons_self).2
theorem none_extl {A R : List PieceR} (hA : ∀ p ∈ A, okB p.f1 = true ∧ isExtl (bl p.f1) = false) (hR : isExtl (bl (hereB R)) = false) : isExtl (bl (hereB (A ++ R))) = false := by
  cases A with
  | nil => exact hR
  | cons p t => rw [List.cons_append, hereB_ok (hA p List.mem_cons_self).1]; exact (hA p List.mem_cons_self).2
theorem lens_of {s : Str} : (Iso.isScr s = true → s.length = 4 ∧ alpha s = true) ∧ (Iso.isReg s = true → s.length = 2 ∨ s.length = 3 ∧ digit s = true) ∧ (Iso.isVar s = true → 5 ≤ s.length ∨ s.length = 4 ∧ digit (s.take 1) = true) ∧ (Iso.isSing s = true → s.length = 1) := by
  refine ⟨fun h => ?_, fun h => ?_, fun h => ?_, fun h => ?_⟩
  · unfold Iso.isScr at h
    simp only [Bool.and_eq_true, decide_eq_true_eq] at h
    exact ⟨h.2, h.1⟩
  · unfold Iso.isReg at h
    simp only [Bool.or_eq_true, Bool.and_eq_true, decide_eq_true_eq] at h
    rcases h with h | h
    · exact .inl h.2
    · exact .inr ⟨h.2, h.1⟩
  · unfold Iso.isVar at h
    simp only [Bool.or_eq_true, Bool.and_eq_true, decide_eq_true_eq] at h
    rcases h.2 with h | h
    · exact .inl h.1
    · exact .inr h
  · unfold Iso.isSing at h
    simp only [Bool.and_eq_true, decide_eq_true_eq] at h
    exact h.1.2
theorem cls_two {s : Str} (h : cls s = 2) : s.all isDg = true := by
  unfold cls at h
  split at h
  · cases h
  · split at h
    · split at h
      · cases h
      · split at h
        · rename_i c; exact c
        · cases h
    · cases h
theorem cls_one {s : Str} (h : cls s = 1) : s.all isAl = true ∧ s ≠ [] := by
  unfold cls at h
  split at h
  · cases h
  · rename_i c0
    split at h
    · split at h
      · rename_i c; exact ⟨c, c0⟩
      · split at h <;> cases h
    · cases h
theorem dg_al (c : UInt8) : (isDg c && isAl c) = false := of_decide_eq_true (byte_all (fun c => decide ((isDg c && isAl c) = false)) (by decide +kernel) c)
theorem alpha_digit {s : Str} (h1 : alpha s = true) (h2 : digit (s.take 1) = true) : False := by
  unfold alpha at h1
  unfold digit at h2
  simp only [decide_eq_true_eq] at h1 h2
  obtain ⟨ha, hn⟩ := cls_one h1
  have hd := cls_two h2
  cases s with
  | nil => exact hn rfl
  | cons c t =>
    simp only [List.all_cons, Bool.and_eq_true] at ha
    simp only [List.take_succ_cons, List.take_zero, List.all_cons, Bool.and_eq_true] at hd
    have := dg_al c
    rw [hd.1, ha.1] at this
    cases this
theorem alpha_digit' {s : Str} (h1 : alpha s = true) (h2 : digit s = true) : False := by
  unfold alpha at h1
  unfold digit at h2
  simp only [decide_eq_true_eq] at h1 h2
  rw [h1] at h2; cases h2
theorem scr_not {s : Str} (h : Iso.isScr s = true) : isExtl s = false := by
  have := (lens_of.1 h).1
  unfold isExtl
  rw [this]; simp
theorem reg_not {s : Str} (h : Iso.isReg s = true) : isExtl s = false ∧ Iso.isScr s = false := by
  constructor
  · cases c : isExtl s with
    | false => rfl
    | true =>
      exfalso
      unfold isExtl at c
      simp only [Bool.and_eq_true, decide_eq_true_eq] at c
      rcases lens_of.2.1 h with h2 | h2
      · omega
      · exact alpha_digit' c.1 h2.2
  · cases c : Iso.isScr s with
    | false => rfl
    | true =>
      have := (lens_of.1 c).1
      rcases lens_of.2.1 h with h2 | h2 <;> omega
theorem var_not {s : Str} (h : Iso.isVar s = true) : isExtl s = false ∧ Iso.isScr s = false ∧ Iso.isReg s = false := by
  have hl := lens_of.2.2.1 h
  refine ⟨?_, ?_, ?_⟩
  · cases c : isExtl s with
    | false => rfl
    | true => have := (isExtl_alnum c).2; omega
  · cases c : Iso.isScr s with
    | false => rfl
    | true =>
      have := lens_of.1 c
      rcases hl with h2 | h2
      · omega
      · exact (alpha_digit this.2 h2.2).elim
  · cases c : Iso.isReg s with
    | false => rfl
    | true => have := lens_of.2.1 c; omega
theorem one_not {s : Str} (h : s.length = 1) : isExtl s = false ∧ Iso.isScr s = false ∧ Iso.isReg s = false ∧ Iso.isVar s = false := by
  refine ⟨?_, ?_, ?_, ?_⟩
  · cases c : isExtl s with
    | false => rfl
    | true => have := (isExtl_alnum c).2; omega
  · cases c : Iso.isScr s with
    | false => rfl
    | true => have := (lens_of.1 c).1; omega
  · cases c : Iso.isReg s with
    | false => rfl
    | true => have := lens_of.2.1 c; omega
  · cases c : Iso.isVar s with
    | false => rfl
    | true => have := lens_of.2.2.1 c; omega
theorem opt_one {q : ByteArray → Bool} {s : ByteArray} {A R : List PieceR} (hA : txs A = opt1 s) (hs : s = ⟨#[]⟩ ∨ okB s = true ∧ q s = true) (hR : noneB q R) : oneV q (A ++ R) = s ∧ oneT q (A ++ R) = R := by
  unfold oneV oneT
  by_cases c : s = ⟨#[]⟩
  · rw [opt1, if_pos c] at hA
    have : A = [] := by simpa using hA
    subst this
    rw [List.nil_append, show oneB q R = false from hR, c]
    exact ⟨rfl, rfl⟩
  · rw [opt1, if_neg c] at hA
    obtain ⟨h1, h2⟩ := hs.resolve_left c
    obtain ⟨p, A1, rfl, hp, hA1⟩ := List.map_eq_cons_iff.1 hA
    have : A1 = [] := by simpa using hA1
    subst this
    rw [List.cons_append, List.nil_append, oneB_ok (by rw [hp]; exact h1), hp, h2, if_pos rfl, if_pos rfl, hereB_ok (by rw [hp]; exact h1), hp]
    exact ⟨rfl, rfl⟩
set_option maxHeartbeats 1000000 in
/-- A right tag's texts, and what stands behind: all goes to the tag's rows. -/
theorem all_head {T : TG} (h : ShapeT T) (E : Int) (H R : List PieceR) (hH : txs H = headL T) (hR : EndR R) : allR E (H ++ R) = tailR E { T with priv := [], grand := ⟨#[]⟩ } R := by
  obtain ⟨pl, A1, rfl, hpl, hA1⟩ := List.map_eq_cons_iff.1 hH
  obtain ⟨XE, A2, rfl, hXE, hA2⟩ := List.map_eq_append_iff.1 hA1
  obtain ⟨XS, A3, rfl, hXS, hA3⟩ := List.map_eq_append_iff.1 hA2
  obtain ⟨XR, A4, rfl, hXR, hA4⟩ := List.map_eq_append_iff.1 hA3
  obtain ⟨XV, XX, rfl, hXV, hXX⟩ := List.map_eq_append_iff.1 hA4
  have okl : okB pl.f1 = true := by rw [hpl]; exact h.lang.1
  have hh : ∀ t, hereB (pl :: t) = T.lang := fun t => by rw [hereB_ok okl, hpl]
  -- what may stand behind each
  have mem : ∀ {A : List PieceR} {l : List ByteArray} {P : ByteArray → Prop}, txs A = l → (∀ s ∈ l, P s) → ∀ p ∈ A, P p.f1 := fun e hP p hp => hP _ (by rw [← e]; exact List.mem_map_of_mem hp)
  have oV : ∀ p ∈ XV, okB p.f1 = true ∧ Iso.isVar (bl p.f1) = true := mem (P := fun s => okB s = true ∧ Iso.isVar (bl s) = true) hXV h.vars.1
  have fx : XX = [] ∨ ∃ p t, XX = p :: t ∧ okB p.f1 = true ∧ Iso.isSing (bl p.f1) = true := by
    cases hx : T.exts with
    | nil =>
      rw [hx] at hXX
      exact .inl (by simpa using hXX)
    | cons y ys =>
      rw [hx, List.flatMap_cons, List.cons_append] at hXX
      obtain ⟨p, A5, e5, hp, _⟩ := List.map_eq_cons_iff.1 hXX
      have := h.exts.1 y (by rw [hx]; exact List.mem_cons_self)
      exact .inr ⟨p, A5, e5, by rw [hp]; exact this.1, by rw [hp]; exact this.2.1⟩
  have nX : ∀ {q : ByteArray → Bool}, q ⟨#[120]⟩ = false → (∀ s : ByteArray, (bl s).length = 1 → q s = false) → noneB q (XX ++ R) := by
    intro q q0 q1
    rcases fx with e | ⟨p, t, e, h1, h2⟩
    · rw [e, List.nil_append]; exact endR_none hR q0
    · rw [e, List.cons_append]
      exact noneB_ok h1 (q1 _ (lens_of.2.2.2 h2))
  have eX : isExtl (bl (hereB (XX ++ R))) = false := by
    rcases fx with e | ⟨p, t, e, h1, h2⟩
    · rw [e, List.nil_append]; exact endR_extl hR
    · rw [e, List.cons_append, hereB_ok h1]
      exact (one_not (lens_of.2.2.2 h2)).1
  have nVar : noneB qVar (XX ++ R) := nX (by decide) (fun s hs => (one_not hs).2.2.2)
  have nReg : noneB qReg (XV ++ (XX ++ R)) := none_app (fun p hp => ⟨(oV p hp).1, (var_not (oV p hp).2).2.2⟩) (nX (by decide) (fun s hs => (one_not hs).2.2.1))
  have mR : ∀ p ∈ XR, okB p.f1 = true ∧ Iso.isReg (bl p.f1) = true := mem (P := fun s => okB s = true ∧ Iso.isReg (bl s) = true) hXR (fun s hs => by
    unfold opt1 at hs
    split at hs
    · cases hs
    · rename_i c
      rw [List.mem_singleton.1 hs]; exact h.region.resolve_left c)
  have mS : ∀ p ∈ XS, okB p.f1 = true ∧ Iso.isScr (bl p.f1) = true := mem (P := fun s => okB s = true ∧ Iso.isScr (bl s) = true) hXS (fun s hs => by
    unfold opt1 at hs
    split at hs
    · cases hs
    · rename_i c
      rw [List.mem_singleton.1 hs]; exact h.script.resolve_left c)
  have nScr : noneB qScr (XR ++ (XV ++ (XX ++ R))) := none_app (fun p hp => ⟨(mR p hp).1, (reg_not (mR p hp).2).2⟩) (none_app (fun p hp => ⟨(oV p hp).1, (var_not (oV p hp).2).2.1⟩) (nX (by decide) (fun s hs => (one_not hs).2.1)))
  have nExt : isExtl (bl (hereB (XS ++ (XR ++ (XV ++ (XX ++ R)))))) = false :=
    none_extl (fun p hp => ⟨(mS p hp).1, scr_not (mS p hp).2⟩) (none_extl (fun p hp => ⟨(mR p hp).1, (reg_not (mR p hp).2).1⟩) (none_extl (fun p hp => ⟨(oV p hp).1, (var_not (oV p hp).2).1⟩) eX))
  have eq : pl :: (XE ++ (XS ++ (XR ++ (XV ++ XX)))) ++ R = pl :: (XE ++ (XS ++ (XR ++ (XV ++ (XX ++ R))))) := by simp
  rw [eq]
  have hx0 : ¬ (bl (hereB (pl :: (XE ++ (XS ++ (XR ++ (XV ++ (XX ++ R))))))) = [120]) := by rw [hh]; exact lang_fits h
  have hlg : oneB qLang (pl :: (XE ++ (XS ++ (XR ++ (XV ++ (XX ++ R)))))) = true := by
    rw [oneB_ok okl]
    show Iso.isLang (bl pl.f1) = true
    rw [hpl]; exact h.lang.2
  have hX : lgX (pl :: (XE ++ (XS ++ (XR ++ (XV ++ (XX ++ R)))))) = T.ext ∧ lgT (pl :: (XE ++ (XS ++ (XR ++ (XV ++ (XX ++ R)))))) = XS ++ (XR ++ (XV ++ (XX ++ R))) := by
    unfold lgX lgT
    rw [hh]
    show (if T.lang.size ≤ 3 then extL 3 (XE ++ (XS ++ (XR ++ (XV ++ (XX ++ R))))) else []) = T.ext ∧ (if T.lang.size ≤ 3 then extT 3 (XE ++ (XS ++ (XR ++ (XV ++ (XX ++ R))))) else XE ++ (XS ++ (XR ++ (XV ++ (XX ++ R))))) = _
    by_cases c : T.lang.size ≤ 3
    · rw [if_pos c, if_pos c]
      have := extL_app XE (XS ++ (XR ++ (XV ++ (XX ++ R)))) 3 (by have := h.ext.1; rw [← hXE, List.length_map] at this; exact this) (mem (P := fun s => okB s = true ∧ isExtl (bl s) = true) hXE h.ext.2.1) nExt
      rw [this.1, this.2, show txs XE = T.ext from hXE]
      exact ⟨rfl, rfl⟩
    · rw [if_neg c, if_neg c]
      have e : T.ext = [] := by
        by_cases e : T.ext = []
        · exact e
        · exact absurd (h.ext.2.2 e) c
      have e2 : XE = [] := by rw [e] at hXE; simpa using hXE
      rw [e, e2]
      exact ⟨rfl, rfl⟩
  obtain ⟨s1, s2⟩ := opt_one (q := qScr) hXS h.script nScr
  obtain ⟨r1, r2⟩ := opt_one (q := qReg) hXR h.region nReg
  have v1 := varR_app XV (XX ++ R) [] oV (by rw [show txs XV = T.vars from hXV]; exact h.vars.2) nVar
  have x1 : exR (XX ++ R) = (T.exts, R, 0) := by
    unfold exR
    have := extF_app T.exts XX R (XX ++ R).length [] (Nat.le_refl _) hXX h.exts.1 h.exts.2 (endR_none hR (by decide)) (endR_none hR (by decide))
    rw [this]; rfl
  rw [allR, if_neg hx0, if_pos hlg, hX.1, hX.2, hh, midR]
  dsimp only
  rw [s1, s2, r1, r2, v1]
  dsimp only
  rw [x1]
  dsimp only
  rw [if_neg (by decide), if_neg (by decide), if_neg (by decide), show txs XV = T.vars from hXV]
  rfl
end Go.Proofs.YtejnfbfikadpdaaGreatDoor.P
