/- What is right is parsed of its texts, and what is parsed is right. Plain words. -/
import Derived.Test.YtejnfbfikadpdaaGreatDoorPureBase
import Derived.Test.YtejnfbfikadpdaaGreatDoorHandSp7
namespace Go.Proofs.YtejnfbfikadpdaaGreatDoor.P
open Go.RowKit Go.Proofs.YtejnfbfikadpdaaGreatDoorW.PrintWords Go.Proofs.YtejnfbfikadpdaaGreatDoor.Iso
set_option linter.unusedVariables false
set_option linter.unusedSimpArgs false
theorem isGrand_low {s u : ByteArray} (h : low (bl s) = low (bl u)) : isGrand s = isGrand u := by
  have hf : findP s = findP u := by funext i; unfold findP; rw [h]
  unfold isGrand findI same
  rw [hf, h]
theorem names_low : ∀ n ∈ nameL, low n = n := by decide +kernel
theorem names_grand : (nameL.all fun n => isGrand (mk n)) = true := by decide +kernel
theorem isGrand_name (s : ByteArray) : isGrand s = isName (bl s) := by
  rw [Bool.eq_iff_iff]
  unfold isName
  rw [List.contains_iff_mem]
  constructor
  · intro c
    unfold isGrand at c
    rw [Bool.and_eq_true, decide_eq_true_eq] at c
    obtain ⟨h1, h2⟩ := c
    unfold same at h2
    have e := of_decide_eq_true h2
    have hl : findI s < nameL.length := h1
    have hm : nameL.getD (findI s) [] ∈ nameL := by
      rw [List.getD_eq_getElem?_getD, List.getElem?_eq_getElem hl]
      exact List.getElem_mem hl
    unfold nm at e
    rw [bl_mk, names_low _ hm] at e
    rw [← e]; exact hm
  · intro hm
    have h1 := List.all_eq_true.1 names_grand _ hm
    rw [← h1]
    exact isGrand_low (by rw [bl_mk, low_low])
theorem ok_of {s : ByteArray} (h1 : s.size ≤ 8) (h2 : cls (bl s) ≠ 0) : okB s = true := by
  unfold okB Iso.alnum
  rw [decide_eq_true h1, decide_eq_true h2]; rfl
theorem ok_alpha {s : ByteArray} (h1 : s.size ≤ 8) (h2 : alpha (bl s) = true) : okB s = true := ok_of h1 (by rw [of_decide_eq_true h2]; decide)
theorem ok_lang {s : ByteArray} (h : Iso.isLang (bl s) = true) : okB s = true := by
  unfold Iso.isLang at h
  rw [Bool.and_eq_true, decide_eq_true_eq, bl_len] at h
  exact ok_alpha h.2.2 h.1
theorem ok_extl {s : ByteArray} (h : isExtl (bl s) = true) : okB s = true := by
  unfold isExtl at h
  rw [Bool.and_eq_true, decide_eq_true_eq, bl_len] at h
  exact ok_alpha (by omega) h.1
theorem ok_scr {s : ByteArray} (h : Iso.isScr (bl s) = true) : okB s = true := by
  unfold Iso.isScr at h
  rw [Bool.and_eq_true, decide_eq_true_eq, bl_len] at h
  exact ok_alpha (by omega) h.1
theorem ok_reg {s : ByteArray} (h : Iso.isReg (bl s) = true) : okB s = true := by
  unfold Iso.isReg at h
  rw [Bool.or_eq_true, Bool.and_eq_true, Bool.and_eq_true, decide_eq_true_eq, decide_eq_true_eq, bl_len] at h
  rcases h with h | h
  · exact ok_alpha (by omega) h.1
  · exact ok_of (by omega) (by rw [of_decide_eq_true h.1]; decide)
theorem ok_var {s : ByteArray} (h : Iso.isVar (bl s) = true) : okB s = true := by
  unfold Iso.isVar at h
  rw [Bool.and_eq_true, Bool.or_eq_true, Bool.and_eq_true, decide_eq_true_eq, decide_eq_true_eq, bl_len] at h
  exact ok_of (by omega) (of_decide_eq_true h.1)
theorem ok_sing {s : ByteArray} (h : Iso.isSing (bl s) = true) : okB s = true := by
  unfold Iso.isSing at h
  rw [Bool.and_eq_true, Bool.and_eq_true, decide_eq_true_eq, bl_len] at h
  exact ok_of (by omega) (of_decide_eq_true h.1.1)
theorem okB_sub (s : ByteArray) : okB s = isSub (bl s) := by
  unfold okB isSub Iso.alnum
  rw [bl_len, Bool.and_comm]
theorem sub_two (s : ByteArray) : subOk 2 s = (okB s && qTwo s) := by
  unfold subOk; rw [okB_sub]; rfl
theorem sub_one {s : ByteArray} : subOk 1 s = okB s := by
  unfold subOk
  rw [← okB_sub]
  cases c : okB s with
  | false => rfl
  | true =>
    rw [Bool.true_and]
    refine decide_eq_true ?_
    rcases Nat.eq_zero_or_pos s.size with h | h
    · exfalso
      have := okB_ne c
      rw [Go.ByteArray.toList_eq] at this
      have e : bl s = [] := List.eq_nil_of_length_eq_zero (by rw [bl_len]; exact h)
      rw [show s.data.toList = [] from e] at this
      cases this
    · exact h
theorem varsB_is : ∀ (l pre : List ByteArray), varsB pre l = true ↔ (∀ s ∈ l, Iso.isVar (bl s) = true) ∧ (l.map bl).Nodup ∧ ∀ u ∈ pre, ∀ v ∈ l, bl u ≠ bl v
  | [], pre => by simp [varsB]
  | v :: t, pre => by
    unfold varsB
    rw [Bool.and_eq_true, Bool.and_eq_true, varsB_is t (pre ++ [v]), List.all_eq_true]
    simp only [decide_eq_true_eq, List.map_cons, List.nodup_cons, List.mem_map, not_exists, not_and, List.mem_cons, forall_eq_or_imp, List.mem_append, List.not_mem_nil, or_false]
    constructor
    · rintro ⟨⟨h1, h2⟩, h3, h4, h5⟩
      exact ⟨⟨h1, h3⟩, ⟨fun x hx e => h5 v (.inr rfl) x hx e.symm, h4⟩, fun u hu => ⟨h2 u hu, fun a ha => h5 u (.inl hu) a ha⟩⟩
    · rintro ⟨⟨h1, h3⟩, ⟨h6, h4⟩, h7⟩
      refine ⟨⟨h1, fun u hu => (h7 u hu).1⟩, h3, h4, fun u hu a ha => ?_⟩
      rcases hu with hu | rfl
      · exact (h7 u hu).2 a ha
      · exact fun e => h6 a ha e.symm
theorem keysB_is : ∀ (l pre : List S47), keysB pre l = true ↔ (∀ x ∈ l, Iso.isSing (bl x.f0) = true ∧ x.f1 ≠ [] ∧ ∀ s ∈ x.f1, okB s = true ∧ qTwo s = true) ∧ (keysOf l).Nodup ∧ ∀ u ∈ pre, ∀ v ∈ l, bl u.f0 ≠ bl v.f0
  | [], pre => by simp [keysB, keysOf]
  | v :: t, pre => by
    unfold keysB keysOf
    rw [Bool.and_eq_true, Bool.and_eq_true, Bool.and_eq_true, Bool.and_eq_true, keysB_is t (pre ++ [v]), List.all_eq_true, List.all_eq_true, Bool.not_eq_true', List.isEmpty_eq_false_iff]
    unfold keysOf
    simp only [sub_two, Bool.and_eq_true, decide_eq_true_eq, List.map_cons, List.nodup_cons, List.mem_map, not_exists, not_and, List.mem_cons, forall_eq_or_imp, List.mem_append, List.not_mem_nil, or_false]
    constructor
    · rintro ⟨⟨⟨h1, h2⟩, h8, h9⟩, h3, h4, h5⟩
      exact ⟨⟨⟨h1, h9, h8⟩, h3⟩, ⟨fun x hx e => h5 v (.inr rfl) x hx e.symm, h4⟩, fun u hu => ⟨h2 u hu, fun a ha => h5 u (.inl hu) a ha⟩⟩
    · rintro ⟨⟨⟨h1, h9, h8⟩, h3⟩, ⟨h6, h4⟩, h7⟩
      refine ⟨⟨⟨h1, fun u hu => (h7 u hu).1⟩, h8, h9⟩, h3, h4, fun u hu a ha => ?_⟩
      rcases hu with hu | rfl
      · exact (h7 u hu).2 a ha
      · exact fun e => h6 a ha e.symm
theorem body_is {T : TG} (h : bodyT T = true) : ShapeT T ∧ (∀ s ∈ T.priv, okB s = true) ∧ isName (textT T) = false := by
  unfold bodyT rowsT extFit at h
  simp only [Bool.and_eq_true] at h
  obtain ⟨⟨⟨⟨⟨h1, h2⟩, h3⟩, h4, h5, h6⟩, h7, h8⟩, h9, h10⟩ := h
  have hv := (varsB_is _ _).1 h4
  have hk := (keysB_is _ _).1 h5
  rw [List.all_eq_true] at h6
  have h9' : ∀ s ∈ T.ext, isExtl (bl s) = true := List.all_eq_true.1 h9
  refine ⟨⟨⟨ok_lang h1, h1⟩, ⟨of_decide_eq_true h7, fun s hs => ⟨ok_extl (h9' s hs), h9' s hs⟩, fun hne => ?_⟩, ?_, ?_, ⟨fun s hs => ⟨ok_var (hv.1 s hs), hv.1 s hs⟩, hv.2.1⟩, ⟨fun x hx => ⟨ok_sing (hk.1 x hx).1, (hk.1 x hx).1, (hk.1 x hx).2⟩, hk.2.1⟩⟩, fun s hs => by have := h6 s hs; rwa [sub_one] at this, by simpa using h10⟩
  · rcases Bool.or_eq_true _ _ ▸ h8 with h8 | h8
    · exact absurd (List.isEmpty_iff.1 h8) hne
    · exact of_decide_eq_true h8
  · unfold scrOk at h2
    rw [Bool.or_eq_true, decide_eq_true_eq] at h2
    exact h2.imp id fun c => ⟨ok_scr c, c⟩
  · unfold regOk at h3
    rw [Bool.or_eq_true, decide_eq_true_eq] at h3
    exact h3.imp id fun c => ⟨ok_reg c, c⟩
theorem is_body {T : TG} (h : ShapeT T) (hp : ∀ s ∈ T.priv, okB s = true) (hn : isName (textT T) = false) : bodyT T = true := by
  unfold bodyT rowsT extFit scrOk regOk extAll
  simp only [Bool.and_eq_true, Bool.or_eq_true, decide_eq_true_eq]
  refine ⟨⟨⟨⟨⟨h.lang.2, h.script.imp id fun c => c.2⟩, h.region.imp id fun c => c.2⟩, (varsB_is _ _).2 ⟨fun s hs => (h.vars.1 s hs).2, h.vars.2, fun u hu => by cases hu⟩, (keysB_is _ _).2 ⟨fun x hx => (h.exts.1 x hx).2, h.exts.2, fun u hu => by cases hu⟩, List.all_eq_true.2 fun s hs => by rw [sub_one]; exact hp s hs⟩, h.ext.1, ?_⟩, List.all_eq_true.2 fun s hs => (h.ext.2.1 s hs).2, by rw [hn]; rfl⟩
  by_cases c : T.ext = []
  · exact .inl (List.isEmpty_iff.2 c)
  · exact .inr (h.ext.2.2 c)
abbrev privL' (l : List ByteArray) : List ByteArray := if l = [] then [] else ⟨#[120]⟩ :: l
theorem subsT_head {T : TG} (hg : T.grand = ⟨#[]⟩) (h : T.lang ≠ ⟨#[]⟩) : subsT T = headL T ++ privL' T.priv := by
  show subsL T.lang T.ext T.script T.region T.vars T.exts T.priv T.grand = _
  unfold subsL
  rw [hg, if_pos (by rw [Go.ByteArray.toList_eq]), subL_head h]
theorem head_ok {T : TG} (h : ShapeT T) : ∀ s ∈ headL T, okB s = true := by
  intro s hs
  unfold headL at hs
  rcases List.mem_cons.1 hs with rfl | hs
  · exact h.lang.1
  rcases List.mem_append.1 hs with hs | hs
  · exact (h.ext.2.1 s hs).1
  rcases List.mem_append.1 hs with hs | hs
  · obtain ⟨rfl, hn⟩ := opt1_mem hs
    exact (h.script.resolve_left hn).1
  rcases List.mem_append.1 hs with hs | hs
  · obtain ⟨rfl, hn⟩ := opt1_mem hs
    exact (h.region.resolve_left hn).1
  rcases List.mem_append.1 hs with hs | hs
  · exact (h.vars.1 s hs).1
  · obtain ⟨x, hx, hs⟩ := List.mem_flatMap.1 hs
    rcases List.mem_cons.1 hs with rfl | hs
    · exact (h.exts.1 x hx).1
    · exact ((h.exts.1 x hx).2.2.2 s hs).1
theorem x_ok : okB ⟨#[120]⟩ = true := by decide
theorem oneB_is {q : ByteArray → Bool} {ps : List PieceR} (h : oneB q ps = true) : ∃ p t, ps = p :: t ∧ hereB ps = p.f1 ∧ okB p.f1 = true ∧ q p.f1 = true := by
  unfold oneB at h
  rw [Bool.and_eq_true, Bool.not_eq_true'] at h
  obtain ⟨p, t, e, h2, h3, h4⟩ := here_ne h.1
  exact ⟨p, t, e, h2, by unfold okB; rw [decide_eq_true h3, h4]; rfl, by rw [← h2]; exact h.2⟩
theorem rowL_txs (q : ByteArray → Bool) : ∀ ps : List PieceR, txs ps = rowL q ps ++ txs (rowT q ps) ∧ ∀ s ∈ rowL q ps, okB s = true ∧ q s = true
  | [] => ⟨rfl, fun s hs => by cases hs⟩
  | p :: t => by
    rw [rowL, rowT]
    by_cases c : oneB q (p :: t) = true
    · rw [if_pos c, if_pos c]
      obtain ⟨p', t', e, h2, h3, h4⟩ := oneB_is c
      obtain ⟨rfl, rfl⟩ := List.cons.inj e
      obtain ⟨i1, i2⟩ := rowL_txs q t
      rw [h2]
      refine ⟨by rw [List.cons_append, ← i1]; rfl, fun s hs => ?_⟩
      rcases List.mem_cons.1 hs with rfl | hs
      · exact ⟨h3, h4⟩
      · exact i2 s hs
    · rw [if_neg c, if_neg c]
      exact ⟨rfl, fun s hs => by cases hs⟩
theorem here_extl {ps : List PieceR} (h : isExtl (bl (hereB ps)) = true) : ∃ p t, ps = p :: t ∧ hereB ps = p.f1 ∧ okB p.f1 = true := by
  have : (hereB ps).toList.isEmpty = false := by
    cases c : (hereB ps).toList.isEmpty with
    | false => rfl
    | true =>
      rw [List.isEmpty_iff, Go.ByteArray.toList_eq] at c
      rw [show bl (hereB ps) = [] from c] at h
      revert h; decide
  obtain ⟨p, t, e, h2, h3, h4⟩ := here_ne this
  exact ⟨p, t, e, h2, by unfold okB; rw [decide_eq_true h3, h4]; rfl⟩
theorem extL_txs : ∀ (n : Nat) (ps : List PieceR), txs ps = extL n ps ++ txs (extT n ps) ∧ (extL n ps).length ≤ n ∧ ∀ s ∈ extL n ps, okB s = true ∧ isExtl (bl s) = true
  | 0, ps => by
    have : extL 0 ps = [] ∧ extT 0 ps = ps := by cases ps <;> exact ⟨rfl, rfl⟩
    rw [this.1, this.2]
    exact ⟨rfl, Nat.le_refl _, fun s hs => by cases hs⟩
  | n + 1, ps => by
    cases c : isExtl (bl (hereB ps)) with
    | false =>
      rw [(extL_no c).1, (extL_no c).2]
      exact ⟨rfl, Nat.zero_le _, fun s hs => by cases hs⟩
    | true =>
      obtain ⟨p, t, rfl, h2, h3⟩ := here_extl c
      have h4 := extL_yes (n := n) (p := p) (t := t) c
      obtain ⟨i1, i2, i3⟩ := extL_txs n t
      rw [h4.1, h4.2, h2]
      refine ⟨by rw [List.cons_append, ← i1]; rfl, by simpa using i2, fun s hs => ?_⟩
      rcases List.mem_cons.1 hs with rfl | hs
      · exact ⟨h3, by rw [← h2]; exact c⟩
      · exact i3 s hs
theorem okB_nil : okB ⟨#[]⟩ = false := by decide
theorem one_txs (q : ByteArray → Bool) (ps : List PieceR) : txs ps = opt1 (oneV q ps) ++ txs (oneT q ps) ∧ (oneV q ps = ⟨#[]⟩ ∨ okB (oneV q ps) = true ∧ q (oneV q ps) = true) := by
  unfold oneV oneT
  by_cases c : oneB q ps = true
  · obtain ⟨p, t, rfl, h2, h3, h4⟩ := oneB_is c
    rw [if_pos c, if_pos c, h2]
    refine ⟨?_, .inr ⟨h3, h4⟩⟩
    rw [opt1, if_neg (fun e => by rw [e, okB_nil] at h3; cases h3)]
    rfl
  · rw [if_neg c, if_neg c]
    exact ⟨rfl, .inl rfl⟩
theorem varR_txs : ∀ (ps : List PieceR) (acc : List ByteArray), (varR acc ps).2.2 = false → ∃ new, (varR acc ps).1 = acc ++ new ∧ txs ps = new ++ txs (varR acc ps).2.1 ∧ (∀ s ∈ new, okB s = true ∧ Iso.isVar (bl s) = true) ∧ ((acc.map bl).Nodup → ((acc ++ new).map bl).Nodup)
  | [], acc, h => ⟨[], by simp [varR], by simp [varR], (fun s hs => nomatch hs), fun h => by simpa using h⟩
  | p :: t, acc, h => by
    rw [varR] at h ⊢
    by_cases c : oneB (fun s => Iso.isVar (bl s)) (p :: t) = true
    · rw [if_pos c] at h ⊢
      obtain ⟨p', t', e, h2, h3, h4⟩ := oneB_is c
      obtain ⟨rfl, rfl⟩ := List.cons.inj e
      rw [h2] at h ⊢
      by_cases d : bl p.f1 ∈ acc.map bl
      · rw [if_pos d] at h; cases h
      · rw [if_neg d] at h ⊢
        obtain ⟨new, i1, i2, i3, i4⟩ := varR_txs t (acc ++ [p.f1]) h
        refine ⟨p.f1 :: new, by rw [i1, List.append_assoc]; rfl, by rw [List.cons_append, ← i2]; rfl, fun s hs => ?_, fun hn => ?_⟩
        · rcases List.mem_cons.1 hs with rfl | hs
          · exact ⟨h3, h4⟩
          · exact i3 s hs
        · have := i4 (by
            rw [List.map_append, List.nodup_append]
            refine ⟨hn, by simp, fun a ha b hb => ?_⟩
            rw [List.map_cons, List.map_nil, List.mem_singleton] at hb
            rw [hb]
            exact fun e => d (e ▸ ha))
          rwa [List.append_assoc] at this
    · rw [if_neg c] at h ⊢
      exact ⟨[], by simp, by simp, (fun s hs => nomatch hs), fun h => by simpa using h⟩
abbrev extTx (l : List S47) : List ByteArray := l.flatMap (fun x => x.f0 :: x.f1)
theorem extF_txs : ∀ (n : Nat) (acc : List S47) (ps : List PieceR), (extF n acc ps).2.2 = 0 → ∃ new, (extF n acc ps).1 = acc ++ new ∧ txs ps = extTx new ++ txs (extF n acc ps).2.1 ∧
    (∀ x ∈ new, okB x.f0 = true ∧ Iso.isSing (bl x.f0) = true ∧ x.f1 ≠ [] ∧ ∀ s ∈ x.f1, okB s = true ∧ qTwo s = true) ∧ ((keysOf acc).Nodup → (keysOf (acc ++ new)).Nodup)
  | 0, acc, ps, h => ⟨[], by simp [extF], by simp [extF], (fun s hs => nomatch hs), fun h => by simpa using h⟩
  | n + 1, acc, [], h => ⟨[], by simp [extF], by simp [extF], (fun s hs => nomatch hs), fun h => by simpa using h⟩
  | n + 1, acc, p :: t, h => by
    rw [extF] at h ⊢
    by_cases c : oneB isSi (p :: t) = true
    · rw [if_pos c] at h ⊢
      obtain ⟨p', t', e, h2, h3, h4⟩ := oneB_is c
      obtain ⟨rfl, rfl⟩ := List.cons.inj e
      rw [h2] at h ⊢
      by_cases d : bl p.f1 ∈ keysOf acc
      · rw [if_pos d] at h; cases h
      · rw [if_neg d] at h ⊢
        by_cases g : (rowL qTwo t).isEmpty = true
        · rw [if_pos g] at h; cases h
        · rw [if_neg g] at h ⊢
          obtain ⟨r1, r2⟩ := rowL_txs qTwo t
          obtain ⟨new, i1, i2, i3, i4⟩ := extF_txs n (acc ++ [⟨p.f1, rowL qTwo t⟩]) (rowT qTwo t) h
          refine ⟨⟨p.f1, rowL qTwo t⟩ :: new, by rw [i1, List.append_assoc]; rfl, ?_, fun x hx => ?_, fun hn => ?_⟩
          · show p.f1 :: txs t = ((p.f1 :: rowL qTwo t) ++ extTx new) ++ _
            rw [List.append_assoc, List.cons_append, ← i2, ← r1]
          · rcases List.mem_cons.1 hx with rfl | hx
            · exact ⟨h3, h4, fun e => g (List.isEmpty_iff.2 e), r2⟩
            · exact i3 x hx
          · have := i4 (by
              unfold keysOf at hn d ⊢
              rw [List.map_append, List.nodup_append]
              refine ⟨hn, by simp, fun a ha b hb => ?_⟩
              rw [List.map_cons, List.map_nil, List.mem_singleton] at hb
              rw [hb]
              exact fun e => d (e ▸ ha))
            rwa [List.append_assoc] at this
    · rw [if_neg c] at h ⊢
      exact ⟨[], by simp, by simp, (fun s hs => nomatch hs), fun h => by simpa using h⟩
theorem extF_three : ∀ (n : Nat) (acc : List S47) (ps : List PieceR), (extF n acc ps).2.2 ≤ 2
  | 0, acc, ps => by simp [extF]
  | n + 1, acc, [] => by simp [extF]
  | n + 1, acc, p :: t => by
    rw [extF]
    split
    · split
      · exact Nat.le_succ 1
      · split
        · exact Nat.le_refl 2
        · exact extF_three n _ _
    · exact Nat.zero_le 2
theorem fin_good {E : Int} {T U : TG} {ps : List PieceR} (h : finR E T ps = .good U) : ps = [] ∧ U = T := by
  unfold finR at h
  by_cases c : ps.isEmpty = true
  · rw [if_pos c] at h
    exact ⟨List.isEmpty_iff.1 c, (PRes.good.inj h).symm⟩
  · rw [if_neg c] at h; cases h
theorem tail_good {E : Int} {T U : TG} {ps : List PieceR} (h : tailR E T ps = .good U) (hT : T.priv = []) : ∃ P, U = { T with priv := P } ∧ txs ps = privL' P ∧ (∀ s ∈ P, okB s = true) ∧ (bl (hereB ps) = [120] → P ≠ []) := by
  unfold tailR at h
  by_cases c : bl (hereB ps) = [120]
  · rw [if_pos c] at h
    by_cases d : (rowL qAny (ps.drop 1)).isEmpty = true
    · rw [if_pos d] at h; cases h
    · rw [if_neg d] at h
      obtain ⟨e1, e2⟩ := fin_good h
      obtain ⟨r1, r2⟩ := rowL_txs qAny (ps.drop 1)
      rw [e1] at r1
      obtain ⟨p, t, rfl⟩ := x_one (q := qAny) c
      have hp : p.f1 = ⟨#[120]⟩ := by
        rw [hereB_cons] at c
        split at c
        · exact x_eq c
        · exact absurd c (by decide)
      have hne : rowL qAny ((p :: t).drop 1) ≠ [] := fun e => d (List.isEmpty_iff.2 e)
      refine ⟨_, e2, ?_, fun s hs => (r2 s hs).1, fun _ => hne⟩
      rw [privL', if_neg hne]
      show p.f1 :: txs t = _
      rw [hp]
      congr 1
      rw [List.drop_one, List.tail_cons] at r1 ⊢
      rw [r1]; simp
  · rw [if_neg c] at h
    obtain ⟨rfl, rfl⟩ := fin_good h
    refine ⟨[], ?_, rfl, (fun s hs => nomatch hs), fun e => absurd e c⟩
    rw [← hT]
theorem mid_good {E : Int} {T U : TG} {ps : List PieceR} (h : midR E T ps = .good U) (hT : T.priv = []) :
    U = { T with script := U.script, region := U.region, vars := U.vars, exts := U.exts, priv := U.priv } ∧ txs ps = opt1 U.script ++ (opt1 U.region ++ (U.vars ++ (extTx U.exts ++ privL' U.priv))) ∧
    (U.script = ⟨#[]⟩ ∨ okB U.script = true ∧ Iso.isScr (bl U.script) = true) ∧ (U.region = ⟨#[]⟩ ∨ okB U.region = true ∧ Iso.isReg (bl U.region) = true) ∧ ((∀ s ∈ U.vars, okB s = true ∧ Iso.isVar (bl s) = true) ∧ (U.vars.map bl).Nodup) ∧
    ((∀ x ∈ U.exts, okB x.f0 = true ∧ Iso.isSing (bl x.f0) = true ∧ x.f1 ≠ [] ∧ ∀ s ∈ x.f1, okB s = true ∧ qTwo s = true) ∧ (keysOf U.exts).Nodup) ∧ ∀ s ∈ U.priv, okB s = true := by
  unfold midR at h
  dsimp only at h
  obtain ⟨s1, s2⟩ := one_txs qScr ps
  obtain ⟨r1, r2⟩ := one_txs qReg (oneT qScr ps)
  cases hv : (varR [] (oneT qReg (oneT qScr ps))).2.2 with
  | true => rw [hv, if_pos rfl] at h; cases h
  | false =>
    rw [hv, if_neg (by decide)] at h
    obtain ⟨vs, v1, v2, v3, v4⟩ := varR_txs _ [] hv
    by_cases h1 : (exR (varR [] (oneT qReg (oneT qScr ps))).2.1).2.2 = 1
    · rw [if_pos h1] at h; cases h
    · rw [if_neg h1] at h
      by_cases h2 : (exR (varR [] (oneT qReg (oneT qScr ps))).2.1).2.2 = 2
      · rw [if_pos h2] at h; cases h
      · rw [if_neg h2] at h
        have h0 : (exR (varR [] (oneT qReg (oneT qScr ps))).2.1).2.2 = 0 := by
          have := extF_three (varR [] (oneT qReg (oneT qScr ps))).2.1.length [] (varR [] (oneT qReg (oneT qScr ps))).2.1
          unfold exR at h1 h2 ⊢
          omega
        obtain ⟨xs, x1, x2, x3, x4⟩ := extF_txs _ [] _ h0
        obtain ⟨P, hU, p1, p2, _⟩ := tail_good h hT
        subst hU
        rw [List.nil_append] at v1 v4 x1 x4
        refine ⟨rfl, ?_, s2, r2, ⟨?_, ?_⟩, ⟨?_, ?_⟩, p2⟩
        · dsimp only
          show txs ps = opt1 (oneV qScr ps) ++ (opt1 (oneV qReg (oneT qScr ps)) ++ ((varR [] (oneT qReg (oneT qScr ps))).1 ++ (extTx (extF _ [] _).1 ++ privL' P)))
          rw [v1, x1, ← p1]
          show txs ps = opt1 (oneV qScr ps) ++ (opt1 (oneV qReg (oneT qScr ps)) ++ (vs ++ (extTx xs ++ txs (extF _ [] _).2.1)))
          rw [← x2, ← v2, ← r1, ← s1]
        · show ∀ s ∈ (varR [] (oneT qReg (oneT qScr ps))).1, _
          rw [v1]; exact v3
        · show ((varR [] (oneT qReg (oneT qScr ps))).1.map bl).Nodup
          rw [v1]; exact v4 (by simp)
        · show ∀ x ∈ (extF _ [] _).1, _
          rw [x1]; exact x3
        · show (keysOf (extF _ [] _).1).Nodup
          rw [x1]; exact x4 (by simp [keysOf])
theorem txs_pieces (s : ByteArray) : txs (piecesOf s) = (split (low (bl s))).map mk := by
  rw [piecesOf_off, txs_off, split_low, List.map_map]; rfl
theorem low_pieces (s : ByteArray) : ∀ x ∈ txs (piecesOf s), lowOk x = true := by
  intro x hx
  rw [piecesOf_off, txs_off] at hx
  obtain ⟨q, _, rfl⟩ := List.mem_map.1 hx
  exact decide_eq_true (by rw [bl_mk, low_low])
theorem lowOk_nil : lowOk ⟨#[]⟩ = true := by decide
theorem parse_right {s : ByteArray} {U : TG} (h : parseR s = .good U) : rightT U = true ∧ textT U = low (bl s) := by
  unfold parseR at h
  cases hg : isGrand s with
  | true =>
    rw [hg, if_pos rfl] at h
    obtain rfl := PRes.good.inj h
    have hne : (mk (low (bl s))) ≠ ⟨#[]⟩ := fun e => by
      rw [isGrand_name] at hg
      unfold isName at hg
      rw [List.contains_iff_mem, show low (bl s) = [] from mk_inj e] at hg
      revert hg; decide
    have ht : subsT { T0 with grand := mk (low (bl s)) } = (split (low (bl s))).map mk := by
      show subsL _ _ _ _ _ _ _ (mk (low (bl s))) = _
      unfold subsL
      rw [if_neg (fun e => hne (bl_inj (by rw [Go.ByteArray.toList_eq] at e; exact e)))]
      rfl
    refine ⟨?_, ?_⟩
    · unfold rightT
      rw [if_neg hne, Bool.and_eq_true]
      refine ⟨?_, ?_⟩
      · unfold smallT
        rw [Bool.and_eq_true, List.all_eq_true]
        refine ⟨fun x hx => ?_, decide_eq_true (by rw [bl_mk, low_low])⟩
        rcases List.mem_append.1 hx with hx | hx
        · rw [ht, ← txs_pieces] at hx
          exact low_pieces s x hx
        · simp only [List.mem_cons, List.not_mem_nil, or_false] at hx
          rcases hx with rfl | rfl | rfl <;> exact lowOk_nil
      · show (true && true && isName (low (bl s))) = true
        rw [isGrand_name] at hg
        unfold isName at hg ⊢
        rw [low_low, hg]; rfl
    · show joinL ((subsT _).map bl) = _
      rw [ht, map_bl_mk, join_split]
  | false =>
    rw [hg, if_neg (by decide)] at h
    have hnm : isName (low (bl s)) = false := by
      rw [isGrand_name] at hg
      unfold isName at hg ⊢
      rw [low_low, hg]
    have fin : ∀ {U : TG}, U.grand = ⟨#[]⟩ → subsT U = txs (piecesOf s) → (∀ x ∈ [U.lang, U.script, U.region], x = ⟨#[]⟩ ∨ x ∈ subsT U) → smallT U = true ∧ textT U = low (bl s) := by
      intro U hgr hs hx
      have hl : ∀ x ∈ subsT U, lowOk x = true := fun x hx => low_pieces s x (by rw [← hs]; exact hx)
      refine ⟨?_, ?_⟩
      · unfold smallT
        rw [Bool.and_eq_true, List.all_eq_true]
        refine ⟨fun x h2 => ?_, by rw [hgr]; exact lowOk_nil⟩
        rcases List.mem_append.1 h2 with h2 | h2
        · exact hl x h2
        · rcases hx x h2 with e | e
          · rw [e]; exact lowOk_nil
          · exact hl x e
      · show joinL ((subsT U).map bl) = _
        rw [hs, txs_pieces, map_bl_mk, join_split]
    unfold allR at h
    by_cases c : bl (hereB (piecesOf s)) = [120]
    · rw [if_pos c] at h
      obtain ⟨P, rfl, h1, h2, h3⟩ := tail_good h rfl
      have hP := h3 c
      have hs : subsT { T0 with priv := P } = txs (piecesOf s) := by
        rw [h1, privL', if_neg hP]
        show subsL ⟨#[]⟩ [] ⟨#[]⟩ ⟨#[]⟩ [] [] P ⟨#[]⟩ = _
        unfold subsL subL
        rw [if_pos (show (⟨#[]⟩ : ByteArray).toList = ([] : List UInt8) by rw [Go.ByteArray.toList_eq]), if_neg hP, some1_opt]
        rfl
      obtain ⟨f1, f2⟩ := fin (U := { T0 with priv := P }) rfl hs (fun x hx => .inl (by
        simp only [List.mem_cons, List.not_mem_nil, or_false] at hx
        rcases hx with rfl | rfl | rfl <;> rfl))
      refine ⟨?_, f2⟩
      unfold rightT
      rw [f1, Bool.true_and, if_pos (show (T0.grand = ⟨#[]⟩) from rfl), if_pos (show (T0.lang = ⟨#[]⟩) from rfl)]
      show (true && !P.isEmpty && P.all (subOk 1)) = true
      rw [show P.isEmpty = false from by rw [List.isEmpty_eq_false_iff]; exact hP]
      exact List.all_eq_true.2 fun x hx => by rw [sub_one]; exact h2 x hx
    · rw [if_neg c] at h
      by_cases d : oneB qLang (piecesOf s) = true
      · rw [if_pos d] at h
        obtain ⟨p, t, e, hh, hok, hq⟩ := oneB_is d
        obtain ⟨m0, m1, m2, m3, m4, m5, m6⟩ := mid_good h rfl
        have hl : U.lang = p.f1 := by rw [m0]; exact hh
        have hxe : U.ext = lgX (piecesOf s) := by rw [m0]
        have hgr : U.grand = ⟨#[]⟩ := by rw [m0]; rfl
        have hlg : txs t = lgX (piecesOf s) ++ txs (lgT (piecesOf s)) ∧ (lgX (piecesOf s)).length ≤ 3 ∧ (∀ x ∈ lgX (piecesOf s), okB x = true ∧ isExtl (bl x) = true) ∧ (lgX (piecesOf s) ≠ [] → p.f1.size ≤ 3) := by
          unfold lgX lgT
          rw [e] at hh ⊢
          rw [hh, List.drop_one, List.tail_cons]
          by_cases g : p.f1.size ≤ 3
          · rw [if_pos g, if_pos g]
            obtain ⟨i1, i2, i3⟩ := extL_txs 3 t
            exact ⟨i1, i2, i3, fun _ => g⟩
          · rw [if_neg g, if_neg g]
            exact ⟨rfl, Nat.zero_le _, (fun x hx => nomatch hx), fun hx => absurd rfl hx⟩
        have hne : U.lang ≠ ⟨#[]⟩ := fun e2 => by rw [← hl, e2, okB_nil] at hok; cases hok
        have hS : ShapeT U := by
          refine ⟨⟨by rw [hl]; exact hok, by rw [hl]; exact hq⟩, ⟨by rw [hxe]; exact hlg.2.1, by rw [hxe]; exact hlg.2.2.1, by rw [hxe, hl]; exact hlg.2.2.2⟩, m2, m3, m4, m5⟩
        have hs : subsT U = txs (piecesOf s) := by
          rw [subsT_head hgr hne, e]
          show headL U ++ privL' U.priv = p.f1 :: txs t
          rw [hlg.1, m1]
          unfold headL
          rw [hl, hxe]
          simp only [List.cons_append, List.append_assoc]
        obtain ⟨f1, f2⟩ := fin hgr hs (fun x hx => by
          simp only [List.mem_cons, List.not_mem_nil, or_false] at hx
          rw [subsT_head hgr hne]
          unfold headL
          rcases hx with rfl | rfl | rfl
          · exact .inr (List.mem_append_left _ List.mem_cons_self)
          · by_cases g : U.script = ⟨#[]⟩
            · exact .inl g
            · exact .inr (List.mem_append_left _ (List.mem_cons_of_mem _ (List.mem_append_right _ (List.mem_append_left _ (by rw [opt1, if_neg g]; exact List.mem_cons_self)))))
          · by_cases g : U.region = ⟨#[]⟩
            · exact .inl g
            · exact .inr (List.mem_append_left _ (List.mem_cons_of_mem _ (List.mem_append_right _ (List.mem_append_right _ (List.mem_append_left _ (by rw [opt1, if_neg g]; exact List.mem_cons_self)))))))
        refine ⟨?_, f2⟩
        unfold rightT
        rw [f1, Bool.true_and, if_pos hgr, if_neg hne]
        exact is_body hS m6 (by rw [f2]; exact hnm)
      · rw [if_neg d] at h; cases h
end Go.Proofs.YtejnfbfikadpdaaGreatDoor.P
