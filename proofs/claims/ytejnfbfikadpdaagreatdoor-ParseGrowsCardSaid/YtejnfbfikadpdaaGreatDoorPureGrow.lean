/- A tag by numbers, with one thing more, is right. -/
import Derived.Test.YtejnfbfikadpdaaGreatDoorPureBack
namespace Go.Proofs.YtejnfbfikadpdaaGreatDoor.P
open Go.RowKit Go.Shelf Go.Proofs.YtejnfbfikadpdaaGreatDoorW.PrintWords Go.Proofs.YtejnfbfikadpdaaGreatDoor.Iso
set_option linter.unusedVariables false
set_option linter.unusedSimpArgs false
def zV : ByteArray := ⟨#[122, 121, 120, 119, 118]⟩
def zX : S47 := ⟨⟨#[122]⟩, [⟨#[97, 98]⟩, ⟨#[99, 100]⟩]⟩
def qP : ByteArray := ⟨#[113]⟩
def growT (T : TG) (n : Int) : TG := if n = 0 then { T with vars := T.vars ++ [zV] } else if n = 1 then { T with exts := T.exts ++ [zX] } else { T with priv := T.priv ++ [qP] }
theorem keysOf_app (a b : List S47) : keysOf (a ++ b) = keysOf a ++ keysOf b := by unfold keysOf; rw [List.map_append]
theorem nodup_snoc {α : Type} {l : List α} {a : α} (h : l.Nodup) (ha : a ∉ l) : (l ++ [a]).Nodup := by
  rw [List.nodup_append]
  exact ⟨h, by simp, fun x hx y hy e => ha (by rw [List.mem_singleton.1 hy] at e; exact e ▸ hx)⟩
theorem base_priv {B : TG} {l6 : List Int} (h : BaseT B l6) : ∀ s ∈ B.priv, okB s = true ∧ plainB s = true := fun s hs => priv_ok s (h.priv.2 s hs)
theorem grow_of {U : TG} (hS : ShapeT U) (hg : U.grand = ⟨#[]⟩) (hp : ∀ s ∈ U.priv, okB s = true) (hl : ∀ s ∈ headL U ++ privL' U.priv, plainB s = true) (q : ByteArray) (hq : q ∈ headL U ++ privL' U.priv) (hn : (nameL.all fun n => !(split (low n)).contains (bl q)) = true) : rightT U = true := by
  have hs : subsT U = headL U ++ privL' U.priv := subsT_head hg (lang_ne hS)
  have hlow : ∀ s ∈ subsT U, lowOk s = true := fun s h => by
    rw [hs] at h
    exact decide_eq_true (plainB_low (hl s h)).symm
  have mem : ∀ s, s ∈ headL U → s ∈ subsT U := fun s h => by rw [hs]; exact List.mem_append_left _ h
  have hlang : U.lang ∈ headL U := List.mem_cons_self ..
  have one : ∀ s, s = ⟨#[]⟩ ∨ s ∈ headL U → lowOk s = true := fun s h => h.elim (fun e => by rw [e]; exact lowOk_nil) (fun h => hlow s (mem s h))
  have hscr : U.script = ⟨#[]⟩ ∨ U.script ∈ headL U := by
    by_cases c : U.script = ⟨#[]⟩
    · exact .inl c
    · refine .inr (List.mem_cons_of_mem _ (List.mem_append_right _ (List.mem_append_left _ ?_)))
      unfold opt1; rw [if_neg c]; exact List.mem_singleton.2 rfl
  have hreg : U.region = ⟨#[]⟩ ∨ U.region ∈ headL U := by
    by_cases c : U.region = ⟨#[]⟩
    · exact .inl c
    · refine .inr (List.mem_cons_of_mem _ (List.mem_append_right _ (List.mem_append_right _ (List.mem_append_left _ ?_))))
      unfold opt1; rw [if_neg c]; exact List.mem_singleton.2 rfl
  have hname : isName (textT U) = false := by
    have hne : headL U ++ privL' U.priv ≠ [] := fun e => by
      have := congrArg List.length e
      unfold headL at this
      simp at this
    have e : txs (offP 0 (textT U)) = headL U ++ privL' U.priv := by
      have := txs_join hne hl 0
      unfold textT
      rw [hs]
      exact this
    have hm : bl q ∈ split (low (textT U)) := by
      rw [txs_off] at e
      rw [← e] at hq
      obtain ⟨p, h1, h2⟩ := List.mem_map.1 hq
      rw [split_low]
      rw [← h2, bl_mk]
      exact List.mem_map_of_mem h1
    have := not_grand (s := mk (textT U)) (p := bl q) (by rw [bl_mk]; exact hm) hn
    rw [isGrand_name, bl_mk] at this
    exact this
  unfold rightT
  rw [if_pos hg, if_neg (lang_ne hS), is_body hS hp hname, Bool.and_true]
  unfold smallT
  rw [Bool.and_eq_true, List.all_eq_true]
  refine ⟨fun s h => ?_, by rw [hg]; exact lowOk_nil⟩
  rcases List.mem_append.1 h with h | h
  · exact hlow s h
  · rcases List.mem_cons.1 h with rfl | h
    · exact hlow _ (mem _ hlang)
    rcases List.mem_cons.1 h with rfl | h
    · exact one _ hscr
    · rw [List.mem_singleton.1 h]; exact one _ hreg
theorem x_plain : plainB ⟨#[120]⟩ = true := by decide
theorem priv_plain {l : List ByteArray} (h : ∀ s ∈ l, plainB s = true) : ∀ s ∈ privL' l, plainB s = true := fun s hs => by
  unfold privL' at hs
  split at hs
  · cases hs
  · rcases List.mem_cons.1 hs with rfl | hs
    · exact x_plain
    · exact h s hs
theorem headL_vars (T : TG) (l : List ByteArray) : ∀ s, s ∈ headL { T with vars := T.vars ++ l } ↔ s ∈ headL T ∨ s ∈ l := fun s => by
  unfold headL
  simp only [List.mem_cons, List.mem_append]
  grind
theorem headL_exts (T : TG) (x : S47) : ∀ s, s ∈ headL { T with exts := T.exts ++ [x] } ↔ s ∈ headL T ∨ s ∈ x.f0 :: x.f1 := fun s => by
  unfold headL
  simp only [List.mem_cons, List.mem_append, List.flatMap_append, List.flatMap_cons, List.flatMap_nil, List.append_nil]
  grind
theorem grow_right {B : TG} {l6 : List Int} (h : BaseT B l6) (n : Int) : rightT (growT B n) = true := by
  have hS := base_shape h
  have hP := base_plain h
  have hpp := base_priv h
  have hg : B.grand = ⟨#[]⟩ := h.grand
  unfold growT
  by_cases c0 : n = 0
  · rw [if_pos c0]
    refine grow_of ⟨hS.lang, hS.ext, hS.script, hS.region, ⟨fun s hs => ?_, ?_⟩, hS.exts⟩ hg (fun s hs => (hpp s hs).1) (fun s hs => ?_) zV (List.mem_append_left _ ((headL_vars B [zV] zV).2 (.inr (List.mem_singleton.2 rfl)))) (by decide +kernel)
    · rcases List.mem_append.1 hs with hs | hs
      · exact hS.vars.1 s hs
      · rw [List.mem_singleton.1 hs]; decide +kernel
    · show ((B.vars ++ [zV]).map bl).Nodup
      rw [List.map_append]
      refine nodup_snoc hS.vars.2 (fun hm => ?_)
      obtain ⟨s, h1, h2⟩ := List.mem_map.1 hm
      have : ∀ s ∈ variantsL, bl s ≠ bl zV := by decide +kernel
      exact this s (h.vars.2.2 s h1) h2
    · rcases List.mem_append.1 hs with hs | hs
      · rcases (headL_vars B [zV] s).1 hs with hs | hs
        · exact hP s hs
        · rw [List.mem_singleton.1 hs]; decide +kernel
      · exact priv_plain (fun s hs => (hpp s hs).2) s hs
  rw [if_neg c0]
  by_cases c1 : n = 1
  · rw [if_pos c1]
    refine grow_of ⟨hS.lang, hS.ext, hS.script, hS.region, hS.vars, ⟨fun x hx => ?_, ?_⟩⟩ hg (fun s hs => (hpp s hs).1) (fun s hs => ?_) ⟨#[99, 100]⟩ (List.mem_append_left _ ((headL_exts B zX _).2 (.inr (List.mem_cons_of_mem _ (List.mem_cons_of_mem _ (List.mem_singleton.2 rfl)))))) (by decide +kernel)
    · rcases List.mem_append.1 hx with hx | hx
      · exact hS.exts.1 x hx
      · rw [List.mem_singleton.1 hx]; decide +kernel
    · show (keysOf (B.exts ++ [zX])).Nodup
      rw [keysOf_app]
      refine nodup_snoc hS.exts.2 (fun hm => ?_)
      rw [base_keys h] at hm
      have : bl zX.f0 ∉ keysL.map bl := by decide +kernel
      exact this (List.mem_of_mem_take hm)
    · rcases List.mem_append.1 hs with hs | hs
      · rcases (headL_exts B zX s).1 hs with hs | hs
        · exact hP s hs
        · have : ∀ s ∈ zX.f0 :: zX.f1, plainB s = true := by decide +kernel
          exact this s hs
      · exact priv_plain (fun s hs => (hpp s hs).2) s hs
  rw [if_neg c1]
  have hne : B.priv ++ [qP] ≠ [] := by simp
  refine grow_of ⟨hS.lang, hS.ext, hS.script, hS.region, hS.vars, hS.exts⟩ hg (fun s hs => ?_) (fun s hs => ?_) qP (List.mem_append_right _ ?_) (by decide +kernel)
  · rcases List.mem_append.1 hs with hs | hs
    · exact (hpp s hs).1
    · rw [List.mem_singleton.1 hs]; decide +kernel
  · rcases List.mem_append.1 hs with hs | hs
    · exact hP s hs
    · refine priv_plain (fun s hs => ?_) s hs
      rcases List.mem_append.1 hs with hs | hs
      · exact (hpp s hs).2
      · rw [List.mem_singleton.1 hs]; decide +kernel
  · show qP ∈ privL' (B.priv ++ [qP])
    unfold privL'
    rw [if_neg hne]
    exact List.mem_cons_of_mem _ (List.mem_append_right _ (List.mem_singleton.2 rfl))
end Go.Proofs.YtejnfbfikadpdaaGreatDoor.P
