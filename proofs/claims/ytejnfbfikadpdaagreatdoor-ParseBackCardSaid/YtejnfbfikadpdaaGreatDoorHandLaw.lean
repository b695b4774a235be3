/- What this chapter's laws call, each with its plain answer. -/
import Derived.Test.YtejnfbfikadpdaaGreatDoorPurePriv
import Derived.Test.YtejnfbfikadpdaaGreatDoorHandUse
import Derived.Test.YtejnfbfikadpdaaGreatDoorPx10
import Derived.Test.YtejnfbfikadpdaaGreatDoorPx8
import Derived.Test.YtejnfbfikadpdaaGreatDoorPx6
namespace Go.Proofs.YtejnfbfikadpdaaGreatDoor.P
open Go.RowKit Go.Proofs.YtejnfbfikadpdaaGreatDoorW.PrintWords Go.Proofs.YtejnfbfikadpdaaGreatDoor.Iso
set_option linter.unusedVariables false
set_option linter.unusedSimpArgs false
theorem base_ext {B : TG} {l6 : List Int} (h : BaseT B l6) : B.ext.length ≤ 1 ∧ (∀ s ∈ B.ext, s ∈ extlL) ∧ (B.ext ≠ [] → B.lang.size ≤ 3) := by
  rcases h.ext with e | ⟨hl, s, hs, e⟩
  · rw [e]; simp
  · rw [e]
    exact ⟨by simp, fun x hx => by rw [List.mem_singleton.1 hx]; exact hs, fun _ => hl⟩
theorem base_exts {B : TG} {l6 : List Int} (h : BaseT B l6) : ∀ x ∈ B.exts, x.f0 ∈ keysL ∧ SubsOk x.f1 := fun x hx => by
  obtain ⟨j, hj⟩ := List.getElem?_of_mem hx
  exact ⟨List.mem_of_getElem? (h.exts.2 j x hj).1, (h.exts.2 j x hj).2⟩
theorem opt1_mem {s x : ByteArray} (h : x ∈ opt1 s) : x = s ∧ s ≠ ⟨#[]⟩ := by
  unfold opt1 at h
  split at h
  · cases h
  · rename_i c
    exact ⟨List.mem_singleton.1 h, c⟩
structure Small (T : TG) : Prop where
  ext : T.ext.length ≤ 1
  vars : T.vars.length ≤ 6
  exts : T.exts.length ≤ 5
  priv : T.priv.length ≤ 4
  subs : ∀ x ∈ T.exts, x.f1.length ≤ 4
theorem base_small {B : TG} {l6 : List Int} (h : BaseT B l6) (n : Int) : Small (spoiltT B n) := by
  have e1 := (base_ext h).1
  have v1 := h.vars.2.1
  have x1 := h.exts.1
  have p1 := h.priv.1
  have s1 : ∀ x ∈ B.exts, x.f1.length ≤ 4 := fun x hx => (base_exts h x hx).2.2.1
  have b : Small B := ⟨e1, by omega, by omega, by omega, s1⟩
  unfold spoiltT
  by_cases q1 : n = 1
  · rw [if_pos q1]; exact ⟨e1, by show (B.vars ++ _).length ≤ 6; rw [List.length_append]; simp; omega, b.exts, b.priv, s1⟩
  rw [if_neg q1]
  by_cases q2 : n = 2
  · rw [if_pos q2]; exact ⟨e1, b.vars, b.exts, b.priv, s1⟩
  rw [if_neg q2]
  by_cases q3 : n = 3
  · rw [if_pos q3]
    refine ⟨e1, b.vars, by show (B.exts ++ _).length ≤ 5; rw [List.length_append]; simp; omega, b.priv, fun x hx => ?_⟩
    rcases List.mem_append.1 hx with hx | hx
    · exact s1 x hx
    · rw [List.mem_singleton.1 hx]; simp
  rw [if_neg q3]
  by_cases q4 : n = 4
  · rw [if_pos q4]; exact ⟨e1, b.vars, b.exts, b.priv, s1⟩
  rw [if_neg q4]
  by_cases q5 : n = 5
  · rw [if_pos q5]; exact ⟨e1, b.vars, b.exts, b.priv, s1⟩
  rw [if_neg q5]
  by_cases q6 : n = 6
  · rw [if_pos q6]; exact ⟨e1, b.vars, b.exts, by show (B.priv ++ _).length ≤ 4; rw [List.length_append]; simp; omega, s1⟩
  rw [if_neg q6]
  by_cases q7 : n = 7
  · rw [if_pos q7]
    refine ⟨e1, b.vars, by show (B.exts ++ _).length ≤ 5; rw [List.length_append]; simp; omega, b.priv, fun x hx => ?_⟩
    rcases List.mem_append.1 hx with hx | hx
    · exact s1 x hx
    · rcases List.mem_cons.1 hx with rfl | hx
      · simp
      · rw [List.mem_singleton.1 hx]; simp
  rw [if_neg q7]
  by_cases q8 : n = 8
  · rw [if_pos q8]; exact ⟨e1, b.vars, b.exts, b.priv, s1⟩
  rw [if_neg q8]
  exact b
theorem flat5 (l : List S47) (h : ∀ x ∈ l, x.f1.length ≤ 4) : (l.flatMap fun x => x.f0 :: x.f1).length ≤ l.length * 5 := by
  induction l with
  | nil => simp
  | cons x t ih =>
    have h1 := h x List.mem_cons_self
    have h2 := ih fun y hy => h y (List.mem_cons_of_mem _ hy)
    simp only [List.flatMap_cons, List.length_append, List.length_cons] at h2 ⊢
    omega
theorem some1_le (s : ByteArray) : (some1 s).length ≤ 1 := by unfold some1; split <;> simp
theorem Small.len {T : TG} (h : Small T) : (subL T.lang T.ext T.script T.region T.vars T.exts T.priv).length ≤ 100 := by
  have h1 := some1_le T.lang
  have h2 := some1_le T.script
  have h3 := some1_le T.region
  have h4 := flat5 T.exts h.subs
  have h5 := h.ext
  have h6 := h.vars
  have h7 := h.exts
  have h8 := h.priv
  unfold subL
  have hp : (if T.priv = [] then [] else (⟨#[120]⟩ : ByteArray) :: T.priv).length ≤ 5 := by
    split
    · simp
    · simp only [List.length_cons]; omega
  simp only [List.length_append] at hp ⊢
  omega
theorem Small.text {T : TG} (h : Small T) (t : TxtS T) : (textT T).length ≤ 1300 := by
  unfold textT subsT subsL
  split
  · refine Nat.le_trans (joinL_len 12 _ fun p hp => ?_) (by rw [List.length_map]; have := h.len; omega)
    obtain ⟨s, hs, rfl⟩ := List.mem_map.1 hp
    rw [bl_len]
    exact t.sub s hs
  · rw [map_bl_mk, join_split, bl_len]
    have := t.grand
    omega
theorem sp_small : ∀ (s acc : Str), ∀ q ∈ sp acc s, q.length ≤ acc.length + s.length
  | [], acc, q, h => by
    rw [sp, List.mem_singleton] at h
    rw [h]; simp
  | c :: t, acc, q, h => by
    rw [sp] at h
    split at h
    · rcases List.mem_cons.1 h with rfl | h
      · simp
      · have := sp_small t [] q h
        simp at this ⊢; omega
    · have := sp_small t _ q h
      simp at this ⊢; omega
end Go.Proofs.YtejnfbfikadpdaaGreatDoor.P
namespace Go.Proofs.YtejnfbfikadpdaaGreatDoor.P
open Go.RowKit Go.Shelf Go.Proofs.YtejnfbfikadpdaaGreatDoorW.PrintWords Go.Proofs.YtejnfbfikadpdaaGreatDoorW.PrintLast Go.Proofs.YtejnfbfikadpdaaGreatDoorW.PrintMore Go.Proofs.YtejnfbfikadpdaaGreatDoor.Iso
set_option linter.unusedVariables false
set_option linter.unusedSimpArgs false
attribute [local go_sem] Oper.semAt_some
theorem wake1 : parseR ⟨#[122, 104, 45, 72, 97, 110, 116, 45, 84, 87, 45, 120, 45, 97]⟩ = .good { T0 with lang := ⟨#[122, 104]⟩, script := ⟨#[104, 97, 110, 116]⟩, region := ⟨#[116, 119]⟩, priv := [⟨#[97]⟩] } := by kernel_rfl
theorem wake2 : parseR ⟨#[100, 101, 45, 49, 57, 48, 49, 45, 49, 57, 48, 49]⟩ = .bad 11 8 ⟨#[118, 97, 114, 105, 97, 110, 116]⟩ := by kernel_rfl
structure Given (W : World) : Prop where
  names : NamesIn W
  err : W.cell? ⟨1, 0, none⟩ = some errV
theorem Given.below {W W' : World} (h : Given W) (hb : Below W.heap.size W W') : Given W' := ⟨h.names.on hb, pw_cell_below hb h.err⟩
set_option maxRecDepth 100000 in
set_option maxHeartbeats 4000000 in
theorem awake_calls (w : World) (hG : Given w) : Calls Tryz.prog 10 #[] w fun e w' => e = .returned (.bool true) ∧ Below w.heap.size w w' := by
  have HG := Lib.hid hG
  obtain ⟨T, hT⟩ : ∃ T : TG, T = { T0 with lang := ⟨#[122, 104]⟩, script := ⟨#[104, 97, 110, 116]⟩, region := ⟨#[116, 119]⟩, priv := [⟨#[97]⟩] } := ⟨_, rfl⟩
  have P1 := Lib.hid (fun W (h : NamesIn W) => Parse_good (wake1.trans (by rw [← hT])) (by decide) W h)
  have P2 := Lib.hid (fun W (h : NamesIn W) => Parse_bad wake2 (by decide) W h)
  have t0 : T.lang = ⟨#[122, 104]⟩ := by rw [hT]
  have t2 : T.script = ⟨#[104, 97, 110, 116]⟩ := by rw [hT]
  have t3 : T.region = ⟨#[116, 119]⟩ := by rw [hT]
  have t6 : T.priv.length = 1 := by rw [hT]; rfl
  clear hG hT
  go_enter Tryz.func10, Tryz.ntmps10
  go_wp2_with (first
    | (go_at_call 13; refine (P1.out _ HG.out.names).mono ?_; rintro e w1 ⟨A1, c1, A4, c4, A5, c5, A6, c6, rfl, hr, hb⟩; have HB1 := Lib.hid hb; clear hb hr P1)
    | (go_at_call 13; refine (P2.out _ ((HG.out.below HB1.out).below (below_alloc (Below.refl _ _) _)).names).mono ?_; rintro e w2 ⟨B1, d1, B4, d4, B5, d5, B6, d6, B, rfl, hF, hr, hb⟩; obtain ⟨ob, hob⟩ : ∃ ob : Obj, ob = .cells #[.string ⟨#[]⟩, .slice B1 0 d1, .string ⟨#[]⟩, .string ⟨#[]⟩, .slice B4 0 d4, .slice B5 0 d5, .slice B6 0 d6, .string ⟨#[]⟩] 29 := ⟨_, rfl⟩; have HF2 := Lib.hid (hF.below (below_alloc (Below.refl _ _) ob)); have HB2 := Lib.hid (below_step (below_step HB1.out (below_alloc (Below.refl _ _) _)) hb); have tb := blk_on (new_blk w1 _) hb; obtain ⟨g0, g1, g2, g3, g4, g5, g6, g7⟩ := cells8o tb ob; have HB3 := Lib.hid (below_alloc HB2.out ob); subst hob; clear hF hb hr P2 tb g1 g4 g5 g7)
    | (go_at_call 25; refine (kind_calls (r := .bad 11 8 ⟨#[118, 97, 114, 105, 97, 110, 116]⟩) (HG.out.below HB3.out).err ⟨B, rfl, HF2.out⟩).mono ?_; rintro e w4 ⟨he, hb⟩; obtain rfl : e = .returned (.int .i64 11) := he; have HF4 := Lib.hid (HF2.out.below hb); have HB4 := Lib.hid (below_step HB3.out hb); clear hb)
    | (go_at_call 26; refine (place_calls (r := .bad 11 8 ⟨#[118, 97, 114, 105, 97, 110, 116]⟩) ⟨B, rfl, HF4.out⟩).mono ?_; rintro e w5 ⟨he, hb⟩; obtain rfl : e = .returned (.int .i64 8) := he; have HB5 := Lib.hid (below_step HB4.out hb); clear hb))
  go_ret
  exact ⟨rfl, HB5.out⟩
end Go.Proofs.YtejnfbfikadpdaaGreatDoor.P
namespace Go.Proofs.YtejnfbfikadpdaaGreatDoor.P
open Go.RowKit Go.Shelf Go.Proofs.YtejnfbfikadpdaaGreatDoorW.PrintWords Go.Proofs.YtejnfbfikadpdaaGreatDoorW.PrintLast Go.Proofs.YtejnfbfikadpdaaGreatDoorW.PrintMore Go.Proofs.YtejnfbfikadpdaaGreatDoor.Iso
set_option linter.unusedVariables false
set_option linter.unusedSimpArgs false
theorem blk_alloc1 {w : World} {g : Nat} {o : Obj} (h : w.heap[g]? = some o) (q : Obj) : (w.alloc q).heap[g]? = some o := blk_on h (below_alloc (Below.refl _ _) _)
theorem cells8p {w : World} {g : Nat} {t : TypeId} {x0 x1 x2 x3 x4 x5 x6 x7 : Value} (h : w.heap[g]? = some (.cells #[x0, x1, x2, x3, x4, x5, x6, x7] t (0, 0))) : w.cell? ⟨g, 0, none⟩ = some x0 ∧ w.cell? ⟨g, 1, none⟩ = some x1 ∧ w.cell? ⟨g, 2, none⟩ = some x2 ∧ w.cell? ⟨g, 3, none⟩ = some x3 ∧ w.cell? ⟨g, 4, none⟩ = some x4 ∧ w.cell? ⟨g, 5, none⟩ = some x5 ∧ w.cell? ⟨g, 6, none⟩ = some x6 ∧ w.cell? ⟨g, 7, none⟩ = some x7 :=
  ⟨(blk_cell h 0).trans rfl, (blk_cell h 1).trans rfl, (blk_cell h 2).trans rfl, (blk_cell h 3).trans rfl, (blk_cell h 4).trans rfl, (blk_cell h 5).trans rfl, (blk_cell h 6).trans rfl, (blk_cell h 7).trans rfl⟩
theorem sameL_refl : ∀ xs : List S47, sameL xs xs = true
  | [] => rfl
  | x :: xs => by unfold sameL sameX; rw [sameL_refl xs, decide_eq_true rfl, decide_eq_true rfl]; rfl
theorem sameT_refl (T : TG) : sameT T T = true := by
  unfold sameT; rw [sameL_refl]; simp
theorem sameL_is : ∀ {xs ys : List S47}, sameL xs ys = true → xs = ys
  | [], [], _ => rfl
  | [], _ :: _, h => by cases h
  | _ :: _, [], h => by cases h
  | x :: xs, y :: ys, h => by
    unfold sameL sameX at h
    simp only [Bool.and_eq_true, decide_eq_true_eq] at h
    obtain ⟨⟨h1, h2⟩, h3⟩ := h
    rw [sameL_is h3]
    cases x; cases y
    dsimp only at h1 h2
    subst h1 h2
    rfl
theorem sameT_is {T U : TG} (h : sameT T U = true) : T = U := by
  unfold sameT at h
  simp only [Bool.and_eq_true, decide_eq_true_eq] at h
  obtain ⟨h1, h2, h3, h4, h5, h6, h7, h8⟩ := h
  have h9 := sameL_is h8
  cases T; cases U
  dsimp only at h1 h2 h3 h4 h5 h6 h7 h9
  subst h1 h2 h3 h4 h5 h6 h7 h9
  rfl
theorem upper02_calls (s : ByteArray) (hs : s.size ≤ 140737488355328) (W : World) : Calls Tryz.prog 14 #[.string s] W fun e W' => e = .returned (.string (mk (up (bl s)))) ∧ Below W.heap.size W W' := by
  obtain ⟨k, hk⟩ := (ref_Upper_ev s hs).rounds
  exact r2_Upper.calls k s _ W hk
abbrev IntsC (W : World) (A : Option Addr) (c : Nat) (l : List Int) : Prop := Kd.C (Kd.int .i64) W A l.length l ∧ l.length ≤ c
theorem IntsC.below {W W' : World} {A : Option Addr} {c : Nat} {l : List Int} (h : IntsC W A c l) (hb : Below W.heap.size W W') : IntsC W' A c l := ⟨Kd.C_below h.1 hb, h.2⟩
theorem made_calls (a0 a1 a2 a3 : Int) (l4 l5 l6 : List Int) (a7 : Int) : ∃ B : TG, BaseT B l6 ∧ ∀ (A4 : Option Addr) (c4 : Nat) (A5 : Option Addr) (c5 : Nat) (A6 : Option Addr) (c6 : Nat) (W : World), IntsC W A4 c4 l4 → IntsC W A5 c5 l5 → IntsC W A6 c6 l6 →
    Calls Tryz.prog 11 #[.agg #[.int .i64 a0, .int .i64 a1, .int .i64 a2, .int .i64 a3, .slice A4 l4.length c4, .slice A5 l5.length c5, .slice A6 l6.length c6, .int .i64 a7]] W fun e W' => ∃ A1 c1 A4 c4 A5 c5 A6 c6, e = .returned (.agg (tagCells (spoiltT B (oddN a7)) A1 c1 A4 c4 A5 c5 A6 c6)) ∧ RowsC W' (spoiltT B (oddN a7)) A1 c1 A4 c4 A5 c5 A6 c6 ∧ Below W.heap.size W W' := by
  obtain ⟨r, hr, B, hB, e⟩ := Made_told a0 a1 a2 a3 l4 l5 l6 a7
  subst e
  obtain ⟨k, hk⟩ := hr.rounds
  exact ⟨B, hB, fun A4 c4 A5 c5 A6 c6 W h4 h5 h6 => Made_tag k a0 a1 a2 a3 A4 c4 l4 A5 c5 l5 A6 c6 l6 a7 _ W h4 h5 h6 hk⟩
end Go.Proofs.YtejnfbfikadpdaaGreatDoor.P
