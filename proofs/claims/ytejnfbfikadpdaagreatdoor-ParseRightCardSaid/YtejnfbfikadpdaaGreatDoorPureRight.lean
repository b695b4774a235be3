/- Where parsing fails, and how large what is parsed is. Plain words. -/
import Derived.Test.YtejnfbfikadpdaaGreatDoorPureBack
import Derived.Test.YtejnfbfikadpdaaGreatDoorHandRules
import Derived.Test.YtejnfbfikadpdaaGreatDoorHandUse
import Derived.Test.YtejnfbfikadpdaaGreatDoorEvTxt
namespace Go.Proofs.YtejnfbfikadpdaaGreatDoor.P
open Go.RowKit Go.Proofs.YtejnfbfikadpdaaGreatDoorW.PrintWords Go.Proofs.YtejnfbfikadpdaaGreatDoor.Iso
set_option linter.unusedVariables false
set_option linter.unusedSimpArgs false
def BegN (L : Str) (n : Nat) : Prop := n ≤ L.length ∧ (n = 0 ∨ L[n - 1]? = some 45)
theorem eachGo_at (L : Str) : ∀ (t pre acc : Str), L = pre ++ (acc ++ t) → BegN L pre.length → ∀ p ∈ eachGo pre.length acc t, BegN L p.1
  | [], pre, acc, hL, h, p, hp => by
    rw [eachGo, List.mem_singleton] at hp
    rw [hp]; exact h
  | c :: t, pre, acc, hL, h, p, hp => by
    rw [eachGo] at hp
    split at hp
    · rename_i hc
      rcases List.mem_cons.1 hp with rfl | hp
      · exact h
      · have e : L = (pre ++ acc ++ [c]) ++ ([] ++ t) := by rw [hL]; simp
        have el : (pre ++ acc ++ [c]).length = pre.length + acc.length + 1 := by rw [List.length_append, List.length_append]; rfl
        rw [← el] at hp
        refine eachGo_at L t _ [] e ⟨?_, .inr ?_⟩ p hp
        · have := congrArg List.length e
          simp only [List.length_append] at this ⊢
          omega
        · rw [el, Nat.add_sub_cancel, e, List.append_assoc, List.append_assoc, ← List.append_assoc]
          rw [List.getElem?_append_right (by rw [List.length_append]; exact Nat.le_refl _), List.length_append, Nat.sub_self, hc]
          rfl
    · exact eachGo_at L t pre (acc ++ [c]) (by rw [hL]; simp) h p hp
def OkAt (s : ByteArray) (a : Int) : Prop := ∃ n : Nat, a = (n : Int) ∧ n ≤ s.size ∧ (n = 0 ∨ n = s.size ∨ (bl s)[n - 1]? = some 45)
def AllAt (s : ByteArray) (ps : List PieceR) : Prop := ∀ p ∈ ps, OkAt s p.f0
theorem pieces_at (s : ByteArray) : AllAt s (piecesOf s) := fun p hp => by
  rw [piecesOf_off] at hp
  obtain ⟨q, hq, rfl⟩ := List.mem_map.1 hp
  obtain ⟨h1, h2⟩ := eachGo_at (bl s) (bl s) [] [] rfl ⟨Nat.zero_le _, .inl rfl⟩ q hq
  exact ⟨q.1, rfl, by rw [← bl_len]; exact h1, h2.imp_right .inr⟩
theorem AllAt.tail {s : ByteArray} {p : PieceR} {t : List PieceR} (h : AllAt s (p :: t)) : AllAt s t := fun q hq => h q (List.mem_cons_of_mem _ hq)
theorem AllAt.drop {s : ByteArray} {ps : List PieceR} (h : AllAt s ps) : AllAt s (ps.drop 1) := fun q hq => h q (List.mem_of_mem_drop hq)
theorem AllAt.stop {s : ByteArray} {ps : List PieceR} (h : AllAt s ps) : OkAt s (stopE (s.size : Int) ps).1 := by
  cases ps with
  | nil => exact ⟨s.size, rfl, Nat.le_refl _, .inr (.inl rfl)⟩
  | cons p t => exact h p (List.mem_cons_self)
theorem AllAt.at {s : ByteArray} {ps : List PieceR} (h : AllAt s ps) : OkAt s (atOf ps) := by
  cases ps with
  | nil => exact ⟨0, rfl, Nat.zero_le _, .inl rfl⟩
  | cons p t => exact h p (List.mem_cons_self)
theorem AllAt.one {s : ByteArray} (q : ByteArray → Bool) {ps : List PieceR} (h : AllAt s ps) : AllAt s (oneT q ps) := by
  unfold oneT; split
  · exact h.drop
  · exact h
theorem AllAt.row {s : ByteArray} (q : ByteArray → Bool) : ∀ {ps : List PieceR}, AllAt s ps → AllAt s (rowT q ps)
  | [], h => h
  | p :: t, h => by
    unfold rowT; split
    · exact AllAt.row q h.tail
    · exact h
theorem AllAt.ext {s : ByteArray} : ∀ {n : Nat} {ps : List PieceR}, AllAt s ps → AllAt s (extT n ps)
  | 0, ps, h => h
  | n + 1, [], h => h
  | n + 1, p :: t, h => by
    unfold extT; split
    · exact AllAt.ext h.tail
    · exact h
theorem AllAt.var {s : ByteArray} : ∀ {ps : List PieceR} {acc : List ByteArray}, AllAt s ps → AllAt s (varR acc ps).2.1
  | [], acc, h => h
  | p :: t, acc, h => by
    unfold varR; split
    · split
      · exact h
      · exact AllAt.var h.tail
    · exact h
theorem AllAt.extF {s : ByteArray} : ∀ {n : Nat} {acc : List S47} {ps : List PieceR}, AllAt s ps → AllAt s (P.extF n acc ps).2.1
  | 0, acc, ps, h => h
  | n + 1, acc, [], h => h
  | n + 1, acc, p :: t, h => by
    unfold P.extF; split
    · split
      · exact h
      · split
        · exact h.tail
        · exact AllAt.extF (AllAt.row qTwo h.tail)
    · exact h
theorem fin_at {s : ByteArray} {T : TG} {ps : List PieceR} {k a : Int} {t : ByteArray} (h : finR (s.size : Int) T ps = .bad k a t) (hp : AllAt s ps) : OkAt s a := by
  unfold finR at h
  split at h
  · cases h
  · obtain ⟨-, e, -⟩ := PRes.bad.inj h
    rw [← e]; exact hp.stop
theorem tail_at {s : ByteArray} {T : TG} {ps : List PieceR} {k a : Int} {t : ByteArray} (h : tailR (s.size : Int) T ps = .bad k a t) (hp : AllAt s ps) : OkAt s a := by
  unfold tailR at h
  split at h
  · split at h
    · obtain ⟨-, e, -⟩ := PRes.bad.inj h
      rw [← e]; exact hp.drop.stop
    · exact fin_at h (hp.drop.row qAny)
  · exact fin_at h hp
theorem place_ok {s : ByteArray} {k a : Int} {t : ByteArray} (h : parseR s = .bad k a t) : OkAt s a := by
  have hp := pieces_at s
  unfold parseR at h
  split at h
  · cases h
  unfold allR at h
  split at h
  · exact tail_at h hp
  split at h
  · have hl : AllAt s (lgT (piecesOf s)) := by
      unfold lgT; split
      · exact hp.drop.ext
      · exact hp.drop
    generalize lgT (piecesOf s) = ps1 at h hl
    have h3 := (hl.one qScr).one qReg
    unfold midR at h
    dsimp only at h
    generalize oneT qReg (oneT qScr ps1) = ps3 at h h3
    have h4 := h3.var (acc := [])
    split at h
    · obtain ⟨-, e, -⟩ := PRes.bad.inj h
      rw [← e]; exact h4.at
    · have h5 : AllAt s (exR (varR [] ps3).2.1).2.1 := AllAt.extF h4
      split at h
      · obtain ⟨-, e, -⟩ := PRes.bad.inj h
        rw [← e]; exact h5.at
      · split at h
        · obtain ⟨-, e, -⟩ := PRes.bad.inj h
          rw [← e]; exact h5.stop
        · exact tail_at h h5
  · obtain ⟨-, e, -⟩ := PRes.bad.inj h
    rw [← e]; exact hp.stop
theorem nodup_le {α : Type} [BEq α] [LawfulBEq α] : ∀ {l L : List α}, l.Nodup → (∀ x ∈ l, x ∈ L) → l.length ≤ L.length
  | [], L, _, _ => Nat.zero_le _
  | x :: t, L, hn, hs => by
    have hx := hs x (List.mem_cons_self)
    have h1 : ∀ y ∈ t, y ∈ L.erase x := fun y hy => by
      have hne : y ≠ x := fun e => (List.nodup_cons.1 hn).1 (e ▸ hy)
      exact (List.mem_erase_of_ne hne).2 (hs y (List.mem_cons_of_mem _ hy))
    have h2 := nodup_le (List.nodup_cons.1 hn).2 h1
    rw [List.length_erase_of_mem hx] at h2
    have h3 : 0 < L.length := List.length_pos_of_mem hx
    rw [List.length_cons]; omega
def singL : List Str := ((List.range 256).map fun i => [UInt8.ofNat i]).filter Iso.isSing
theorem singL_len : singL.length ≤ 90 := by decide +kernel
theorem sing_mem {q : Str} (h : Iso.isSing q = true) : q ∈ singL := by
  refine List.mem_filter.2 ⟨?_, h⟩
  unfold Iso.isSing at h
  simp only [Bool.and_eq_true, decide_eq_true_eq] at h
  obtain ⟨c, rfl⟩ := List.length_eq_one_iff.1 h.1.2
  exact List.mem_map.2 ⟨c.toNat, List.mem_range.2 c.toNat_lt, by rw [UInt8.ofNat_toNat]⟩
theorem keys_few {l : List S47} (h : ∀ x ∈ l, Iso.isSing (bl x.f0) = true) (hn : (keysOf l).Nodup) : l.length ≤ 90 := by
  have := nodup_le (L := singL) hn (fun x hx => by obtain ⟨e, he, rfl⟩ := List.mem_map.1 hx; exact sing_mem (h e he))
  unfold keysOf at this
  rw [List.length_map] at this
  exact Nat.le_trans this singL_len
theorem okB_size {s : ByteArray} (h : okB s = true) : 0 < s.size ∧ s.size ≤ 8 := by
  have h2 := okB_ne h
  have h3 : s.size ≤ 8 := by unfold okB at h; rw [Bool.and_eq_true] at h; exact of_decide_eq_true h.1
  refine ⟨?_, h3⟩
  rw [Go.ByteArray.toList_eq, List.isEmpty_eq_false_iff] at h2
  rw [← bl_len]
  exact List.length_pos_iff.2 h2
theorem tailJ_ge : ∀ (l : List Str), (∀ q ∈ l, 0 < q.length) → 2 * l.length ≤ (tailJ l).length
  | [], _ => Nat.zero_le _
  | q :: t, h => by
    have h1 := tailJ_ge t (fun x hx => h x (List.mem_cons_of_mem _ hx))
    have h2 := h q (List.mem_cons_self)
    have e : (tailJ (q :: t)).length = q.length + (tailJ t).length + 1 := by
      show (45 :: (q ++ tailJ t)).length = _
      rw [List.length_cons, List.length_append]
    rw [e, List.length_cons]; omega
theorem joinL_ge (l : List Str) (h : ∀ q ∈ l, 0 < q.length) : 2 * l.length ≤ (joinL l).length + 1 := by
  cases l with
  | nil => exact Nat.zero_le _
  | cons q t =>
    have h1 := tailJ_ge t (fun x hx => h x (List.mem_cons_of_mem _ hx))
    have h2 := h q (List.mem_cons_self)
    have e : (joinL (q :: t)).length = q.length + (tailJ t).length := by
      show (q ++ tailJ t).length = _
      rw [List.length_append]
    rw [e, List.length_cons]; omega
theorem name_size {s : Str} (h : isName s = true) : s.length ≤ 12 := by
  unfold isName at h
  have hm := List.contains_iff_mem.1 h
  have hl : (nameL.all fun n => decide (n.length ≤ 12)) = true := by decide
  have := of_decide_eq_true (List.all_eq_true.1 hl _ hm)
  rwa [low_length] at this
theorem plain_is {T : TG} (h : plainT T = true) : T.lang = ⟨#[]⟩ ∧ T.ext = [] ∧ T.script = ⟨#[]⟩ ∧ T.region = ⟨#[]⟩ ∧ T.vars = [] ∧ T.exts = [] := by
  unfold plainT at h
  simp only [Bool.and_eq_true, decide_eq_true_eq, List.isEmpty_iff] at h
  exact h
theorem flat_le : ∀ {l : List S47} {e : S47}, e ∈ l → (e.f0 :: e.f1).length ≤ (l.flatMap (fun x => x.f0 :: x.f1)).length
  | a :: t, e, h => by
    rw [List.flatMap_cons, List.length_append]
    rcases List.mem_cons.1 h with rfl | h
    · exact Nat.le_add_right _ _
    · exact Nat.le_trans (flat_le h) (Nat.le_add_left _ _)
theorem parsed_fit {s : ByteArray} {U : TG} (h : parseR s = .good U) (hs : s.size ≤ 1900) : FewS U ∧ TxtS U ∧ Fit U := by
  obtain ⟨hr, ht⟩ := parse_right h
  have hlen : (textT U).length ≤ 1900 := by rw [ht, low_length, bl_len]; exact hs
  have n0 : (⟨#[]⟩ : ByteArray).size = 0 := rfl
  unfold rightT at hr
  rw [Bool.and_eq_true] at hr
  obtain ⟨-, hr⟩ := hr
  have key : (∀ x ∈ subL U.lang U.ext U.script U.region U.vars U.exts U.priv, okB x = true) → U.exts.length ≤ 90 → U.grand.size ≤ 12 →
      (U.grand = ⟨#[]⟩ ∨ subL U.lang U.ext U.script U.region U.vars U.exts U.priv = []) → FewS U ∧ TxtS U ∧ Fit U := by
    intro hk he hg hgg
    have hn : (subL U.lang U.ext U.script U.region U.vars U.exts U.priv).length ≤ 960 := by
      rcases hgg with e | e
      · have h1 := joinL_ge ((subL U.lang U.ext U.script U.region U.vars U.exts U.priv).map bl) (fun q hq => by
          obtain ⟨x, hx, rfl⟩ := List.mem_map.1 hq
          rw [bl_len]; exact (okB_size (hk x hx)).1)
        have e2 : textT U = joinL ((subL U.lang U.ext U.script U.region U.vars U.exts U.priv).map bl) := by
          unfold textT subsT subsL
          rw [if_pos (by rw [e, Go.ByteArray.toList_eq])]
        rw [← e2, List.length_map] at h1
        omega
      · rw [e]; exact Nat.zero_le _
    have hsub : ∀ x ∈ subsT U, x.size ≤ 1900 := by
      intro x hx
      have hx2 : x ∈ subsL U.lang U.ext U.script U.region U.vars U.exts U.priv U.grand := hx
      unfold subsL at hx2
      split at hx2
      · have := (okB_size (hk x hx2)).2; omega
      · obtain ⟨q, hq, rfl⟩ := List.mem_map.1 hx2
        have h1 := sp_small (bl U.grand) [] q (by rw [← split_sp]; exact hq)
        rw [bl_len] at h1
        rw [mk_size]
        simp only [List.length_nil] at h1
        omega
    have s1 : ∀ z : ByteArray, (∀ x ∈ some1 z, okB x = true) → z.size ≤ 8 := by
      intro z hz
      by_cases c : z = ⟨#[]⟩
      · rw [c]; decide
      · refine (okB_size (hz z ?_)).2
        rw [some1_opt, opt1, if_neg c]; exact List.mem_singleton.2 rfl
    unfold subL at hk hn
    simp only [List.mem_append, List.length_append] at hk hn
    have k1 := s1 U.lang (fun x hx => hk x (by simp only [hx, true_or, or_true]))
    have k2 : ∀ x ∈ U.ext, x.size ≤ 8 := fun x hx => (okB_size (hk x (by simp only [hx, true_or, or_true]))).2
    have k3 := s1 U.script (fun x hx => hk x (by simp only [hx, true_or, or_true]))
    have k4 := s1 U.region (fun x hx => hk x (by simp only [hx, true_or, or_true]))
    have k5 : ∀ x ∈ U.vars, x.size ≤ 8 := fun x hx => (okB_size (hk x (by simp only [hx, true_or, or_true]))).2
    have k6 : ∀ e ∈ U.exts, ∀ x ∈ e.f0 :: e.f1, x.size ≤ 8 := fun e he x hx => by
      have hm : x ∈ U.exts.flatMap (fun x => x.f0 :: x.f1) := List.mem_flatMap.2 ⟨e, he, hx⟩
      exact (okB_size (hk x (by simp only [hm, true_or, or_true]))).2
    have k7 : ∀ x ∈ U.priv, x.size ≤ 8 := fun x hx => by
      have hm : x ∈ (if U.priv = [] then [] else (⟨#[120]⟩ : ByteArray) :: U.priv) := by
        rw [if_neg (fun e => by rw [e] at hx; cases hx)]; exact List.mem_cons_of_mem _ hx
      exact (okB_size (hk x (by simp only [hm, true_or, or_true]))).2
    have l7 : U.priv.length ≤ 960 := by
      by_cases c : U.priv = []
      · rw [c]; exact Nat.zero_le _
      · rw [if_neg c, List.length_cons] at hn; omega
    have l6 : ∀ e ∈ U.exts, e.f1.length ≤ 960 := fun e he => by
      have : (e.f0 :: e.f1).length ≤ (U.exts.flatMap (fun x => x.f0 :: x.f1)).length := flat_le he
      rw [List.length_cons] at this
      omega
    refine ⟨⟨by omega, by omega, he, by omega, fun x hx => Nat.le_trans (l6 x hx) (by decide), by omega⟩,
      ⟨by omega, fun x hx => Nat.le_trans (k2 x hx) (by decide), by omega, by omega, fun x hx => Nat.le_trans (k5 x hx) (by decide), fun x hx => Nat.le_trans (k6 x hx _ List.mem_cons_self) (by decide), fun x hx y hy => Nat.le_trans (k6 x hx _ (List.mem_cons_of_mem _ hy)) (by decide), fun x hx => Nat.le_trans (k7 x hx) (by decide), hg⟩,
      ⟨?_, by omega, fun x hx => Nat.le_trans (hsub x hx) (by decide), by omega, by omega, by omega, fun x hx => Nat.le_trans (k2 x hx) (by decide), fun x hx => Nat.le_trans (k5 x hx) (by decide), fun x hx => Nat.le_trans (k7 x hx) (by decide), fun x hx => Nat.le_trans (k6 x hx _ List.mem_cons_self) (by decide), fun x hx y hy => Nat.le_trans (k6 x hx _ (List.mem_cons_of_mem _ hy)) (by decide), by omega, by omega, by omega, by omega, by omega, fun x hx => Nat.le_trans (l6 x hx) (by decide)⟩⟩
    unfold subL
    simp only [List.length_append]
    omega
  have nilsub : ∀ {P : List ByteArray}, U.lang = ⟨#[]⟩ ∧ U.ext = [] ∧ U.script = ⟨#[]⟩ ∧ U.region = ⟨#[]⟩ ∧ U.vars = [] ∧ U.exts = [] → subL U.lang U.ext U.script U.region U.vars U.exts U.priv = (if U.priv = [] then [] else ⟨#[120]⟩ :: U.priv) := by
    intro P ⟨e1, e2, e3, e4, e5, e6⟩
    unfold subL
    rw [e1, e2, e3, e4, e5, e6, some1_opt, opt1, if_pos rfl]
    rfl
  by_cases hg : U.grand = ⟨#[]⟩
  · rw [if_pos hg] at hr
    by_cases hl : U.lang = ⟨#[]⟩
    · rw [if_pos hl] at hr
      simp only [Bool.and_eq_true] at hr
      have hp := plain_is hr.1.1
      refine key (fun x hx => ?_) (by rw [hp.2.2.2.2.2]; exact Nat.zero_le _) (by rw [hg]; decide) (.inl hg)
      rw [nilsub (P := []) hp] at hx
      split at hx
      · cases hx
      · rcases List.mem_cons.1 hx with rfl | hx
        · exact x_ok
        · rw [← sub_one]; exact List.all_eq_true.1 hr.2 x hx
    · rw [if_neg hl] at hr
      obtain ⟨hS, hP, -⟩ := body_is hr
      refine key (fun x hx => ?_) (keys_few (fun x hx => (hS.exts.1 x hx).2.1) hS.exts.2) (by rw [hg]; decide) (.inl hg)
      have e : subsT U = subL U.lang U.ext U.script U.region U.vars U.exts U.priv := by
        show subsL _ _ _ _ _ _ _ U.grand = _
        unfold subsL
        rw [if_pos (by rw [hg, Go.ByteArray.toList_eq])]
      rw [← e, subsT_head hg hl] at hx
      rcases List.mem_append.1 hx with hx | hx
      · exact head_ok hS x hx
      · unfold privL' at hx
        split at hx
        · cases hx
        · rcases List.mem_cons.1 hx with rfl | hx
          · exact x_ok
          · exact hP x hx
  · rw [if_neg hg] at hr
    simp only [Bool.and_eq_true] at hr
    have hp := plain_is hr.1.1
    have hpr : U.priv = [] := List.isEmpty_iff.1 hr.1.2
    have e0 : subL U.lang U.ext U.script U.region U.vars U.exts U.priv = [] := by rw [nilsub (P := []) hp, if_pos hpr]
    refine key (fun x hx => by rw [e0] at hx; cases hx) (by rw [hp.2.2.2.2.2]; exact Nat.zero_le _) ?_ (.inr e0)
    have := name_size hr.2
    rwa [bl_len] at this
end Go.Proofs.YtejnfbfikadpdaaGreatDoor.P
