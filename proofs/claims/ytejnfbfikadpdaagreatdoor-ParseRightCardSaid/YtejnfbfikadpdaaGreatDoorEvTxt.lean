/- How many texts a tag has that is made of numbers, or of few things; how long these are, and what they are joined. No condition. -/
import Derived.Test.YtejnfbfikadpdaaGreatDoorEvMade
import Derived.Test.YtejnfbfikadpdaaGreatDoorEvSubtags
import Derived.Test.YtejnfbfikadpdaaGreatDoorPx8
namespace Go.Proofs.YtejnfbfikadpdaaGreatDoor.Iso
open Go Go.RowKit Go.Proofs.YtejnfbfikadpdaaGreatDoorW.PrintWords Go.Proofs.YtejnfbfikadpdaaGreatDoor.P
set_option linter.unusedVariables false
structure FewS (T : TG) : Prop where
  ext : T.ext.length ≤ 1000
  vars : T.vars.length ≤ 1000
  exts : T.exts.length ≤ 90
  priv : T.priv.length ≤ 1000
  subs : ∀ x ∈ T.exts, x.f1.length ≤ 1000
  grand : T.grand.size ≤ 1000
theorem BaseT.fewS {B : TG} {l6 : List Int} (h : BaseT B l6) (n : Int) : FewS (spoiltT B n) := by
  have e1 : B.ext.length ≤ 1 := by rcases h.ext with e | ⟨_, s, _, e⟩ <;> rw [e] <;> simp
  have v1 := h.vars.2.1
  have x1 := h.exts.1
  have p1 := h.priv.1
  have g1 : B.grand.size ≤ 1000 := by rw [h.grand]; decide
  have s1 : ∀ x ∈ B.exts, x.f1.length ≤ 4 := fun x hx => by
    obtain ⟨j, hj⟩ := List.getElem?_of_mem hx
    exact (h.exts.2 j x hj).2.2.1
  have s2 : ∀ x ∈ B.exts, x.f1.length ≤ 1000 := fun x hx => by have := s1 x hx; omega
  unfold spoiltT
  by_cases q1 : n = 1
  · rw [if_pos q1]; exact ⟨by show B.ext.length ≤ 1000; omega, by show (B.vars ++ _).length ≤ 1000; rw [List.length_append]; simp; omega, by show B.exts.length ≤ 90; omega, by show B.priv.length ≤ 1000; omega, s2, g1⟩
  rw [if_neg q1]
  by_cases q2 : n = 2
  · rw [if_pos q2]; exact ⟨by show B.ext.length ≤ 1000; omega, by show B.vars.length ≤ 1000; omega, by show B.exts.length ≤ 90; omega, by show B.priv.length ≤ 1000; omega, s2, g1⟩
  rw [if_neg q2]
  by_cases q3 : n = 3
  · rw [if_pos q3]
    refine ⟨by show B.ext.length ≤ 1000; omega, by show B.vars.length ≤ 1000; omega, by show (B.exts ++ _).length ≤ 90; rw [List.length_append]; simp; omega, by show B.priv.length ≤ 1000; omega, fun x hx => ?_, g1⟩
    rcases List.mem_append.1 hx with hx | hx
    · have := s1 x hx; omega
    · rw [List.mem_singleton.1 hx]; simp
  rw [if_neg q3]
  by_cases q4 : n = 4
  · rw [if_pos q4]; exact ⟨by show B.ext.length ≤ 1000; omega, by show B.vars.length ≤ 1000; omega, by show B.exts.length ≤ 90; omega, by show B.priv.length ≤ 1000; omega, s2, g1⟩
  rw [if_neg q4]
  by_cases q5 : n = 5
  · rw [if_pos q5]; exact ⟨by show B.ext.length ≤ 1000; omega, by show B.vars.length ≤ 1000; omega, by show B.exts.length ≤ 90; omega, by show B.priv.length ≤ 1000; omega, s2, by show (ByteArray.mk #[105, 45, 97, 109, 105]).size ≤ 1000; decide⟩
  rw [if_neg q5]
  by_cases q6 : n = 6
  · rw [if_pos q6]; exact ⟨by show B.ext.length ≤ 1000; omega, by show B.vars.length ≤ 1000; omega, by show B.exts.length ≤ 90; omega, by show (B.priv ++ _).length ≤ 1000; rw [List.length_append]; simp; omega, s2, g1⟩
  rw [if_neg q6]
  by_cases q7 : n = 7
  · rw [if_pos q7]
    refine ⟨by show B.ext.length ≤ 1000; omega, by show B.vars.length ≤ 1000; omega, by show (B.exts ++ _).length ≤ 90; rw [List.length_append]; simp; omega, by show B.priv.length ≤ 1000; omega, fun x hx => ?_, g1⟩
    rcases List.mem_append.1 hx with hx | hx
    · have := s1 x hx; omega
    · rcases List.mem_cons.1 hx with rfl | hx
      · simp
      · rw [List.mem_singleton.1 hx]; simp
  rw [if_neg q7]
  by_cases q8 : n = 8
  · rw [if_pos q8]; exact ⟨by show B.ext.length ≤ 1000; omega, by show B.vars.length ≤ 1000; omega, by show B.exts.length ≤ 90; omega, by show B.priv.length ≤ 1000; omega, s2, g1⟩
  rw [if_neg q8]
  exact ⟨by omega, by omega, by omega, by omega, s2, g1⟩
abbrev subsT (T : TG) : List ByteArray := subsL T.lang T.ext T.script T.region T.vars T.exts T.priv T.grand
theorem FewS.len {T : TG} (h : FewS T) : (subL T.lang T.ext T.script T.region T.vars T.exts T.priv).length ≤ 100000 := sub_len _ _ _ _ _ _ _ h.ext h.vars h.exts h.priv h.subs
theorem FewS.tag {T : TG} (h : FewS T) : tag_Subtags.f T.lang T.ext T.script T.region T.vars T.exts T.priv T.grand = some (subsT T) := tagSub_eq _ _ _ _ _ _ _ _ h.len h.grand
theorem FewS.ref {T : TG} (h : FewS T) : Ev (fun k => r6_Subtags.f k T.lang T.ext T.script T.region T.vars T.exts T.priv T.grand) (subsT T) := refSub_ev _ _ _ _ _ _ _ _ (Nat.le_trans h.exts (by decide)) h.len h.grand
theorem FewS.small {T : TG} (h : FewS T) : (subsT T).length ≤ 100000 := by
  unfold subsT subsL
  split
  · exact h.len
  · rw [List.length_map]
    have := split_length (bl T.grand)
    have e : (bl T.grand).length = T.grand.size := bl_len _
    have := h.grand
    omega
structure TxtS (T : TG) : Prop where
  lang : T.lang.size ≤ 12
  ext : ∀ s ∈ T.ext, s.size ≤ 12
  script : T.script.size ≤ 12
  region : T.region.size ≤ 12
  vars : ∀ s ∈ T.vars, s.size ≤ 12
  keys : ∀ x ∈ T.exts, x.f0.size ≤ 12
  subs : ∀ x ∈ T.exts, ∀ s ∈ x.f1, s.size ≤ 12
  priv : ∀ s ∈ T.priv, s.size ≤ 12
  grand : T.grand.size ≤ 12
theorem langs12 : ∀ s ∈ langsL, s.size ≤ 12 := by decide
theorem title_len (s : Str) : (title s).length = s.length := by
  cases s with
  | nil => rfl
  | cons c t => simp [title, low_length]
theorem baseT_txtS {B : TG} {l6 : List Int} (h : BaseT B l6) (n : Int) : TxtS (spoiltT B n) := by
  have hl := langs12 _ h.lang
  have he : ∀ s ∈ B.ext, s.size ≤ 12 := by
    rcases h.ext with e | ⟨_, s, hs, e⟩
    · rw [e]; simp
    · rw [e]
      intro x hx
      rw [List.mem_singleton.1 hx]
      exact (show ∀ s ∈ extlL, s.size ≤ 12 by decide) s hs
  have hsc := (show ∀ s ∈ scriptsL, s.size ≤ 12 by decide) _ h.script
  have hr := (show ∀ s ∈ regionsL, s.size ≤ 12 by decide) _ h.region
  have hv : ∀ s ∈ B.vars, s.size ≤ 12 := fun s hs => (show ∀ s ∈ variantsL, s.size ≤ 12 by decide) s (h.vars.2.2 s hs)
  have hk : ∀ x ∈ B.exts, x.f0.size ≤ 12 := fun x hx => by
    obtain ⟨j, hj⟩ := List.getElem?_of_mem hx
    exact (show ∀ s ∈ keysL, s.size ≤ 12 by decide) _ (List.mem_of_getElem? (h.exts.2 j x hj).1)
  have hs : ∀ x ∈ B.exts, ∀ s ∈ x.f1, s.size ≤ 12 := fun x hx s hs => by
    obtain ⟨j, hj⟩ := List.getElem?_of_mem hx
    exact (show ∀ s ∈ wordsL, s.size ≤ 12 by decide) s ((h.exts.2 j x hj).2.2.2 s hs)
  have hp : ∀ s ∈ B.priv, s.size ≤ 12 := fun s hs => (show ∀ s ∈ privL, s.size ≤ 12 by decide) s (h.priv.2 s hs)
  have hg : B.grand.size ≤ 12 := by rw [h.grand]; decide
  unfold spoiltT
  by_cases q1 : n = 1
  · rw [if_pos q1]
    refine ⟨hl, he, hsc, hr, fun s hs => ?_, hk, hs, hp, hg⟩
    rcases List.mem_append.1 hs with hs | hs
    · exact hv s hs
    · rcases List.mem_cons.1 hs with rfl | hs
      · decide
      · rw [List.mem_singleton.1 hs]; decide
  rw [if_neg q1]
  by_cases q2 : n = 2
  · rw [if_pos q2]
    exact ⟨by show (mk (title (bl B.lang))).size ≤ 12; rw [mk_size, title_len, bl_len]; exact hl, he, hsc, hr, hv, hk, hs, hp, hg⟩
  rw [if_neg q2]
  by_cases q3 : n = 3
  · rw [if_pos q3]
    refine ⟨hl, he, hsc, hr, hv, fun x hx => ?_, fun x hx => ?_, hp, hg⟩
    · rcases List.mem_append.1 hx with hx | hx
      · exact hk x hx
      · rw [List.mem_singleton.1 hx]; decide
    · rcases List.mem_append.1 hx with hx | hx
      · exact hs x hx
      · rw [List.mem_singleton.1 hx]; simp
  rw [if_neg q3]
  by_cases q4 : n = 4
  · rw [if_pos q4]; exact ⟨hl, he, by show (ByteArray.mk #[108, 97, 116]).size ≤ 12; decide, hr, hv, hk, hs, hp, hg⟩
  rw [if_neg q4]
  by_cases q5 : n = 5
  · rw [if_pos q5]; exact ⟨hl, he, hsc, hr, hv, hk, hs, hp, by show (ByteArray.mk #[105, 45, 97, 109, 105]).size ≤ 12; decide⟩
  rw [if_neg q5]
  by_cases q6 : n = 6
  · rw [if_pos q6]
    refine ⟨hl, he, hsc, hr, hv, hk, hs, fun s hs => ?_, hg⟩
    rcases List.mem_append.1 hs with hs | hs
    · exact hp s hs
    · rw [List.mem_singleton.1 hs]; decide
  rw [if_neg q6]
  by_cases q7 : n = 7
  · rw [if_pos q7]
    refine ⟨hl, he, hsc, hr, hv, fun x hx => ?_, fun x hx => ?_, hp, hg⟩
    · rcases List.mem_append.1 hx with hx | hx
      · exact hk x hx
      · rcases List.mem_cons.1 hx with rfl | hx
        · decide
        · rw [List.mem_singleton.1 hx]; decide
    · rcases List.mem_append.1 hx with hx | hx
      · exact hs x hx
      · rcases List.mem_cons.1 hx with rfl | hx
        · intro s hs; rw [List.mem_singleton.1 hs]; decide
        · rw [List.mem_singleton.1 hx]
          intro s hs; rw [List.mem_singleton.1 hs]; decide
  rw [if_neg q7]
  by_cases q8 : n = 8
  · rw [if_pos q8]; exact ⟨by show (ByteArray.mk #[]).size ≤ 12; decide, he, hsc, hr, hv, hk, hs, hp, hg⟩
  rw [if_neg q8]
  exact ⟨hl, he, hsc, hr, hv, hk, hs, hp, hg⟩
theorem tailJ_len (m : Nat) : ∀ ps : List Str, (∀ p ∈ ps, p.length ≤ m) → (tailJ ps).length ≤ ps.length * (m + 1)
  | [], _ => by simp [tailJ]
  | p :: t, h => by
    have h1 := h p List.mem_cons_self
    have h2 := tailJ_len m t fun q hq => h q (List.mem_cons_of_mem _ hq)
    simp only [tailJ, List.length_cons, List.length_append, Nat.succ_mul]
    omega
theorem joinL_len (m : Nat) (ps : List Str) (h : ∀ p ∈ ps, p.length ≤ m) : (joinL ps).length ≤ ps.length * (m + 1) := by
  cases ps with
  | nil => simp [joinL]
  | cons p t =>
    have h1 := h p List.mem_cons_self
    have h2 := tailJ_len m t fun q hq => h q (List.mem_cons_of_mem _ hq)
    simp only [joinL, List.length_cons, List.length_append, Nat.succ_mul]
    omega
theorem some1_mem {s x : ByteArray} (h : x ∈ some1 s) : x = s := by
  unfold some1 at h
  split at h
  · cases h
  · exact List.mem_singleton.1 h
theorem TxtS.sub {T : TG} (h : TxtS T) : ∀ s ∈ subL T.lang T.ext T.script T.region T.vars T.exts T.priv, s.size ≤ 12 := by
  intro s hs
  unfold subL at hs
  rcases List.mem_append.1 hs with hs | hs
  · rcases List.mem_append.1 hs with hs | hs
    · rcases List.mem_append.1 hs with hs | hs
      · rcases List.mem_append.1 hs with hs | hs
        · rcases List.mem_append.1 hs with hs | hs
          · rw [some1_mem hs]; exact h.lang
          · exact h.ext s hs
        · rcases List.mem_append.1 hs with hs | hs
          · rw [some1_mem hs]; exact h.script
          · rw [some1_mem hs]; exact h.region
      · exact h.vars s hs
    · obtain ⟨x, hx, hs⟩ := List.mem_flatMap.1 hs
      rcases List.mem_cons.1 hs with rfl | hs
      · exact h.keys x hx
      · exact h.subs x hx s hs
  · split at hs
    · cases hs
    · rcases List.mem_cons.1 hs with rfl | hs
      · decide
      · exact h.priv s hs
theorem map_mk_bl (l : List ByteArray) : (l.map bl).map mk = l := by
  rw [List.map_map]
  conv => rhs; rw [← List.map_id l]
  exact List.map_congr_left fun s _ => mk_bl s
theorem map_bl_mk (l : List Str) : (l.map mk).map bl = l := by
  rw [List.map_map]
  conv => rhs; rw [← List.map_id l]
  exact List.map_congr_left fun s _ => bl_mk s
abbrev textT (T : TG) : Str := joinL ((subsT T).map bl)
theorem textT_len {T : TG} (h : TxtS T) (f : FewS T) : (textT T).length ≤ 1300000 := by
  unfold textT subsT subsL
  split
  · refine Nat.le_trans (joinL_len 12 _ fun p hp => ?_) (by rw [List.length_map]; have := f.len; omega)
    obtain ⟨s, hs, rfl⟩ := List.mem_map.1 hp
    rw [bl_len]
    exact h.sub s hs
  · rw [map_bl_mk, join_split, bl_len]
    have := h.grand
    omega
theorem fewS_joined {T : TG} (f : FewS T) (h : TxtS T) : Ev (fun k => r4_Join.f k (subsT T)) (mk (textT T)) := by
  have h1 := f.small
  have h2 := textT_len h f
  have := ref_Join_ev ((subsT T).map bl) (by rw [List.length_map]; omega) (by have : (joinL ((subsT T).map bl)).length ≤ 1300000 := h2; omega)
  rw [map_mk_bl] at this
  exact this
end Go.Proofs.YtejnfbfikadpdaaGreatDoor.Iso
