/- What the tags of plain numbers are, in plain words: every call of Made comes to a tag of few words; spoilt in one of eight ways, or not. -/
import Derived.Test.YtejnfbfikadpdaaGreatDoorPx0
import Derived.Lib.Hide
import Derived.Test.YtejnfbfikadpdaaGreatDoorEvC
import Derived.Test.YtejnfbfikadpdaaGreatDoorMadeF
import Derived.Test.YtejnfbfikadpdaaGreatDoorPx5
namespace Go.Proofs.YtejnfbfikadpdaaGreatDoor.P
open Go.RowKit Go.Shelf Go.Proofs.YtejnfbfikadpdaaGreatDoorW.PrintWords
set_option linter.unusedVariables false
set_option linter.unusedSimpArgs false
def sameX (x y : S47) : Bool := decide (x.f0 = y.f0) && decide (x.f1 = y.f1)
def sameL : List S47 → List S47 → Bool
  | [], [] => true
  | x :: xs, y :: ys => sameX x y && sameL xs ys
  | _, _ => false
structure TG where
  lang : ByteArray
  ext : List ByteArray
  script : ByteArray
  region : ByteArray
  vars : List ByteArray
  exts : List S47
  priv : List ByteArray
  grand : ByteArray
def sameT (T U : TG) : Bool := decide (T.lang = U.lang) && (decide (T.script = U.script) && (decide (T.region = U.region) && (decide (T.grand = U.grand) && (decide (T.ext = U.ext) && (decide (T.vars = U.vars) && (decide (T.priv = U.priv) && sameL T.exts U.exts))))))
theorem ba_inj6 {x y : ByteArray} (h : x.toList = y.toList) : x = y := by
  rw [Go.ByteArray.toList_eq, Go.ByteArray.toList_eq] at h
  exact ByteArray.ext (Array.toList_inj.1 h)
theorem ba_same {x y : ByteArray} : x.toList = y.toList ↔ x = y := ⟨ba_inj6, fun h => by rw [h]⟩
theorem sameL_ne : ∀ (xs ys : List S47), xs.length ≠ ys.length → sameL xs ys = false
  | [], [], h => absurd rfl h
  | [], _ :: _, _ => rfl
  | _ :: _, [], _ => rfl
  | x :: xs, y :: ys, h => by
    unfold sameL
    rw [sameL_ne xs ys (fun e => h (by rw [List.length_cons, List.length_cons, e])), Bool.and_false]
theorem getR (xs : List S47) (i : Nat) (h : i < xs.length) : rd_T47 xs (i : Int) = xs[i] := by
  unfold rd_T47
  rw [Int.toNat_natCast, List.getD_eq_getElem?_getD, List.getElem?_eq_getElem h]; rfl
def TagC (W : World) (T : TG) (v : Value) : Prop := ∃ A1 c1 A4 c4 A5 c5 A6 c6, v = .agg #[.string T.lang, .slice A1 T.ext.length c1, .string T.script, .string T.region, .slice A4 T.vars.length c4, .slice A5 T.exts.length c5, .slice A6 T.priv.length c6, .string T.grand] ∧
  (Kd.C Kd.string W A1 T.ext.length T.ext ∧ T.ext.length ≤ c1) ∧ (Kd.C Kd.string W A4 T.vars.length T.vars ∧ T.vars.length ≤ c4) ∧ (Kd.C k47 W A5 T.exts.length T.exts ∧ T.exts.length ≤ c5) ∧ (Kd.C Kd.string W A6 T.priv.length T.priv ∧ T.priv.length ≤ c6)
theorem TagC.below {W W' : World} {T : TG} {v : Value} (h : TagC W T v) (hb : Below W.heap.size W W') : TagC W' T v := by
  obtain ⟨A1, c1, A4, c4, A5, c5, A6, c6, e, h1, h4, h5, h6⟩ := h
  exact ⟨A1, c1, A4, c4, A5, c5, A6, c6, e, ⟨Kd.C_below h1.1 hb, h1.2⟩, ⟨Kd.C_below h4.1 hb, h4.2⟩, ⟨Kd.C_below h5.1 hb, h5.2⟩, ⟨Kd.C_below h6.1 hb, h6.2⟩⟩
theorem blk_on {w W : World} {g : Nat} {o : Obj} (h : w.heap[g]? = some o) (hb : Below w.heap.size w W) : W.heap[g]? = some o := (hb.block g (blk_lt h)).trans h
theorem new_blk (w : World) (o : Obj) : (w.alloc o).heap[w.heap.size]? = some o := heap_alloc_new w o
end Go.Proofs.YtejnfbfikadpdaaGreatDoor.P
namespace Go.Proofs.YtejnfbfikadpdaaGreatDoor.Iso
open Go Go.RowKit Go.Proofs.YtejnfbfikadpdaaGreatDoorW.PrintWords Go.Proofs.YtejnfbfikadpdaaGreatDoor.P
set_option linter.unusedVariables false
set_option linter.unusedSimpArgs false
def langsL : List ByteArray := [⟨#[101, 110]⟩, ⟨#[122, 104]⟩, ⟨#[115, 114]⟩, ⟨#[117, 110, 100]⟩, ⟨#[105, 119]⟩, ⟨#[110, 111]⟩, ⟨#[115, 103, 110]⟩, ⟨#[109, 111]⟩, ⟨#[104, 97, 110, 116]⟩, ⟨#[97, 98, 99, 100, 101, 102, 103, 104]⟩, ⟨#[100, 101]⟩, ⟨#[114, 111, 111, 116]⟩]
def scriptsL : List ByteArray := [⟨#[]⟩, ⟨#[]⟩, ⟨#[108, 97, 116, 110]⟩, ⟨#[99, 121, 114, 108]⟩, ⟨#[104, 97, 110, 115]⟩, ⟨#[113, 97, 97, 105]⟩, ⟨#[104, 97, 110, 116]⟩]
def regionsL : List ByteArray := [⟨#[]⟩, ⟨#[]⟩, ⟨#[117, 115]⟩, ⟨#[103, 98]⟩, ⟨#[52, 49, 57]⟩, ⟨#[100, 100]⟩, ⟨#[99, 110]⟩, ⟨#[98, 114]⟩, ⟨#[115, 117]⟩]
def variantsL : List ByteArray := [⟨#[49, 57, 57, 52]⟩, ⟨#[104, 101, 112, 108, 111, 99]⟩, ⟨#[102, 111, 110, 105, 112, 97]⟩, ⟨#[97, 114, 101, 118, 101, 108, 97]⟩, ⟨#[49, 97, 50, 98]⟩, ⟨#[115, 99, 111, 117, 115, 101]⟩]
def wordsL : List ByteArray := [⟨#[99, 97]⟩, ⟨#[98, 117, 100, 100, 104, 105, 115, 116]⟩, ⟨#[99, 111]⟩, ⟨#[116, 114, 117, 101]⟩, ⟨#[107, 110]⟩, ⟨#[112, 104, 111, 110, 101, 98, 107]⟩, ⟨#[109, 48]⟩, ⟨#[101, 110]⟩, ⟨#[97, 98, 49]⟩, ⟨#[105, 115, 108, 97, 109, 105, 99, 99]⟩, ⟨#[104, 48]⟩]
def extlL : List ByteArray := [⟨#[121, 117, 101]⟩, ⟨#[99, 109, 110]⟩, ⟨#[109, 105, 110]⟩]
def privL : List ByteArray := [⟨#[97]⟩, ⟨#[117, 115]⟩, ⟨#[112, 114, 105, 118, 97, 116, 101, 49]⟩, ⟨#[120]⟩]
def keysL : List ByteArray := [⟨#[117]⟩, ⟨#[116]⟩, ⟨#[97]⟩, ⟨#[57]⟩]
theorem Pick_in (l : List ByteArray) (n : Int) (h0 : 0 < l.length) (h1 : l.length ≤ 1000) : ∃ s, s ∈ l ∧ r6_Pick.f l n = some s := by
  obtain ⟨L, hL⟩ : ∃ L : Int, L = (l.length : Int) := ⟨_, rfl⟩
  have hL0 : 0 < L := by omega
  have hL1 : L ≤ 1000 := by omega
  have t1 : Int.tmod n L < L := Int.tmod_lt_of_pos n hL0
  have t2 : -L < Int.tmod n L := by
    have h := Int.tmod_lt_of_pos (-n) hL0
    rw [Int.neg_tmod] at h; omega
  have hw : wrap64 (Int.tmod n L + L) = Int.tmod n L + L := by unfold wrap64; omega
  obtain ⟨m, hm⟩ : ∃ m, m = Int.tmod (Int.tmod n L + L) L := ⟨_, rfl⟩
  have m0 : 0 ≤ m := by rw [hm]; exact Int.tmod_nonneg _ (by omega)
  have m1 : m < L := by rw [hm]; exact Int.tmod_lt_of_pos _ hL0
  have hlt : m.toNat < l.length := by omega
  refine ⟨l[m.toNat], List.getElem_mem hlt, ?_⟩
  unfold r6_Pick.f
  rw [← hL, hw, ← hm, if_neg (by omega), if_pos m0, if_pos m1]
  unfold rdOf
  rw [List.getD_eq_getElem?_getD, List.getElem?_eq_getElem hlt]; rfl
def spoiltT (B : TG) (n : Int) : TG :=
  if n = 1 then { B with vars := B.vars ++ [⟨#[102, 111, 110, 105, 112, 97]⟩, ⟨#[102, 111, 110, 105, 112, 97]⟩] }
  else if n = 2 then { B with lang := mk (title (bl B.lang)) }
  else if n = 3 then { B with exts := B.exts ++ [⟨⟨#[98]⟩, []⟩] }
  else if n = 4 then { B with script := ⟨#[108, 97, 116]⟩ }
  else if n = 5 then { B with grand := ⟨#[105, 45, 97, 109, 105]⟩ }
  else if n = 6 then { B with priv := B.priv ++ [⟨#[97, 98, 99, 100, 101, 102, 103, 104, 105]⟩] }
  else if n = 7 then { B with exts := B.exts ++ [⟨⟨#[99]⟩, [⟨#[97, 98]⟩]⟩, ⟨⟨#[99]⟩, [⟨#[99, 100]⟩]⟩] }
  else if n = 8 then { B with lang := ⟨#[]⟩ }
  else B
abbrev tup (T : TG) : ByteArray × List ByteArray × ByteArray × ByteArray × List ByteArray × (List S47) × List ByteArray × ByteArray := (T.lang, T.ext, T.script, T.region, T.vars, T.exts, T.priv, T.grand)
theorem Title_ev (s : ByteArray) (hn : s.size ≤ 1000) : Ev (fun k => r2_Title.f k s) (mk (title (bl s))) := by
  unfold r2_Title.f
  cases hs : bl s with
  | nil =>
    have h0 : s.toList = ([] : List UInt8) := by
      have := hs; unfold bl at this; rw [Go.ByteArray.toList_eq]; exact this
    simp only [h0, ↓reduceIte]
    exact Ev.now _
  | cons c t =>
    have hl : s.size = t.length + 1 := by rw [← bl_len, hs]; rfl
    have h0 : ¬ s.toList = ([] : List UInt8) := by
      intro h
      have : bl s = [] := by unfold bl; rw [Go.ByteArray.toList_eq] at h; exact h
      rw [hs] at this; cases this
    have e1 : bl (s.extract 0 1) = [c] := by rw [bl_extract, hs]; rfl
    have e2 : bl (s.extract 1 s.size) = t := by rw [bl_extract, hs, hl]; simp
    have z1 : (s.extract 0 1).size = 1 := by rw [← bl_len, e1]; rfl
    have z2 : (s.extract 1 s.size).size = t.length := by rw [← bl_len, e2]
    simp only [h0, show (0 : Int) ≤ 1 from by decide, show (1 : Int) ≤ (s.size : Int) from by omega, ↓reduceIte]
    refine Ev.bind (ref_Upper_ev _ (by omega)) (Ev.bind (ref_Lower_ev _ (by omega)) ?_)
    rw [e1, e2]
    have hz : (mk (up [c])).size + (mk (low t)).size ≤ 9223372036854775807 := by
      rw [mk_size, mk_size, up_length, low_length]; simp; omega
    simp only [hz, ↓reduceIte]
    rw [mk_append]
    exact Ev.now _
theorem spoilt_ev (B : TG) (n : Int) (h4 : B.vars.length ≤ 1000) (h5 : B.exts.length ≤ 1000) (h6 : B.priv.length ≤ 1000) (h0 : B.lang.size ≤ 1000) :
    Ev (fun k => r6_spoilt.f k B.lang B.ext B.script B.region B.vars B.exts B.priv B.grand n) (tup (spoiltT B n)) := by
  unfold r6_spoilt.f spoiltT
  simp only [show B.vars.length ≤ 1000 ∧ B.exts.length ≤ 1000 ∧ B.priv.length ≤ 1000 from ⟨h4, h5, h6⟩, ↓reduceIte]
  by_cases q1 : n = 1
  · subst q1; exact Ev.now _
  by_cases q2 : n = 2
  · subst q2
    exact Ev.bind (Title_ev _ h0) (Ev.now _)
  by_cases q3 : n = 3
  · subst q3; exact Ev.now _
  by_cases q4 : n = 4
  · subst q4; exact Ev.now _
  by_cases q5 : n = 5
  · subst q5; exact Ev.now _
  by_cases q6 : n = 6
  · subst q6; exact Ev.now _
  by_cases q7 : n = 7
  · subst q7; exact Ev.now _
  by_cases q8 : n = 8
  · subst q8; exact Ev.now _
  simp only [q1, q2, q3, q4, q5, q6, q7, q8, ↓reduceIte]
  exact Ev.now _
def SubsOk (l : List ByteArray) : Prop := l ≠ [] ∧ l.length ≤ 4 ∧ ∀ s ∈ l, s ∈ wordsL
structure BaseT (B : TG) (l6 : List Int) : Prop where
  lang : B.lang ∈ langsL
  ext : B.ext = [] ∨ B.lang.size ≤ 3 ∧ ∃ e ∈ extlL, B.ext = [e]
  script : B.script ∈ scriptsL
  region : B.region ∈ regionsL
  vars : B.vars.Nodup ∧ B.vars.length ≤ 4 ∧ ∀ v ∈ B.vars, v ∈ variantsL
  exts : B.exts.length ≤ 3 ∧ ∀ (j : Nat) (x : S47), B.exts[j]? = some x → keysL[j]? = some x.f0 ∧ SubsOk x.f1
  priv : B.priv.length ≤ 3 ∧ ∀ s ∈ B.priv, s ∈ privL
  none : l6 = [] → B.priv = []
  grand : B.grand = ⟨#[]⟩
def EvX {α : Type} (g : Nat → Option α) (Q : α → Prop) : Prop := ∃ r, Ev g r ∧ Q r
theorem EvX.step {α : Type} {g f : Nat → Option α} {Q : α → Prop} (h : ∀ k, g (k + 1) = f k) (k : EvX f Q) : EvX g Q := by
  obtain ⟨r, hr, hq⟩ := k
  exact ⟨r, Ev.step h hr, hq⟩
theorem EvX.congr {α : Type} {g f : Nat → Option α} {Q : α → Prop} (h : ∀ k, g k = f k) (k : EvX f Q) : EvX g Q := by
  obtain ⟨r, hr, hq⟩ := k
  exact ⟨r, Ev.congr h hr, hq⟩
section
variable (a0 a1 a2 a3 : Int) (l4 l5 l6 : List Int) (a7 : Int) (x0 : ByteArray) (x1 : List ByteArray) (x2 x3 : ByteArray)
abbrev oddN (a7 : Int) : Int := Int.tmod (wrap64 (Int.tmod a7 12 + 12)) 12
abbrev Told (a7 : Int) (l6 : List Int) (r : ByteArray × List ByteArray × ByteArray × ByteArray × List ByteArray × (List S47) × List ByteArray × ByteArray) : Prop := ∃ B : TG, BaseT B l6 ∧ r = tup (spoiltT B (oddN a7))
theorem spoilt_told (B : TG) (hB : BaseT B l6) (hl : ∀ s ∈ langsL, s.size ≤ 1000) : EvX (fun k => r6_spoilt.f k B.lang B.ext B.script B.region B.vars B.exts B.priv B.grand (oddN a7)) (Told a7 l6) :=
  ⟨_, spoilt_ev B _ (by have := hB.vars.2.1; omega) (by have := hB.exts.1; omega) (by have := hB.priv.1; omega) (hl _ hB.lang), B, hB, rfl⟩
theorem langs_size : ∀ s ∈ langsL, s.size ≤ 1000 := by
  intro s hs
  simp only [langsL, List.mem_cons, List.not_mem_nil, or_false] at hs
  rcases hs with rfl | rfl | rfl | rfl | rfl | rfl | rfl | rfl | rfl | rfl | rfl | rfl <;> decide
theorem l4_told (x4 : List ByteArray) (x5 : List S47)
    (H : ∀ p : List ByteArray, p.length ≤ 3 → (∀ s ∈ p, s ∈ privL) → (l6 = [] → p = []) → BaseT ⟨x0, x1, x2, x3, x4, x5, p, ⟨#[]⟩⟩ l6) :
    ∀ (d i : Nat) (p : List ByteArray), d + i = 3 → p.length ≤ i → (∀ s ∈ p, s ∈ privL) → (l6 = [] → p = []) →
    EvX (fun k => mD.l4 k (i : Int) a0 a1 a2 a3 l4 l5 l6 a7 x0 x1 x2 x3 x4 x5 p ⟨#[]⟩) (Told a7 l6) := by
  intro d
  have fin : ∀ (i : Nat) (p : List ByteArray), ¬ ((i : Int) < (l6.length : Int) ∧ (i : Int) < 3) → p.length ≤ 3 → (∀ s ∈ p, s ∈ privL) → (l6 = [] → p = []) → EvX (fun k => mD.l4 k (i : Int) a0 a1 a2 a3 l4 l5 l6 a7 x0 x1 x2 x3 x4 x5 p ⟨#[]⟩) (Told a7 l6) := by
    intro i p hi h1 h2 h3
    obtain ⟨r, hr, hq⟩ := spoilt_told l6 a7 _ (H p h1 h2 h3) langs_size
    refine ⟨r, ?_, hq⟩
    refine Ev.step (f := fun k => (r6_spoilt.f k x0 x1 x2 x3 x4 x5 p ⟨#[]⟩ (oddN a7)).bind fun b => some (b.1, b.2.1, b.2.2.1, b.2.2.2.1, b.2.2.2.2.1, b.2.2.2.2.2.1, b.2.2.2.2.2.2.1, b.2.2.2.2.2.2.2)) (fun k => ?_) (Ev.bind hr (Ev.now _))
    show mD.l4 (k + 1) _ _ _ _ _ _ _ _ _ _ _ _ _ _ _ _ _ = _
    simp only [mD.l4]
    by_cases c : (i : Int) < (l6.length : Int)
    · rw [if_pos c, if_neg (fun h => hi ⟨c, h⟩)]
    · rw [if_neg c]
  induction d with
  | zero =>
    intro i p hi h1 h2 h3
    exact fin i p (by omega) (by omega) h2 h3
  | succ d ih =>
    intro i p hi h1 h2 h3
    by_cases c : (i : Int) < (l6.length : Int)
    · obtain ⟨s, hs, he⟩ := Pick_in privL (rd l6 (i : Int)) (by decide) (by decide)
      have hw : wrap64 ((i : Int) + 1) = ((i + 1 : Nat) : Int) := by unfold wrap64; omega
      refine EvX.step (f := fun k => mD.l4 k ((i + 1 : Nat) : Int) a0 a1 a2 a3 l4 l5 l6 a7 x0 x1 x2 x3 x4 x5 (p ++ [s]) ⟨#[]⟩) (fun k => ?_) (ih (i + 1) (p ++ [s]) (by omega) (by rw [List.length_append]; simp; omega) (fun t ht => ?_) (fun e => by subst e; simp at c; omega))
      · show mD.l4 (k + 1) _ _ _ _ _ _ _ _ _ _ _ _ _ _ _ _ _ = _
        simp only [mD.l4]
        rw [if_pos c, if_pos (by omega), if_pos (by omega)]
        have he' : r6_Pick.f [⟨#[97]⟩, ⟨#[117, 115]⟩, ⟨#[112, 114, 105, 118, 97, 116, 101, 49]⟩, ⟨#[120]⟩] (rd l6 (i : Int)) = some s := he
        rw [he', Option.bind_some, if_pos (by omega), hw]
      · rcases List.mem_append.1 ht with ht | ht
        · exact h2 t ht
        · rw [List.mem_singleton.1 ht]; exact hs
    · exact fin i p (fun h => c h.1) (by omega) h2 h3
theorem l3_told (n : Int) (hn0 : 0 ≤ n) (hn1 : n < 1000) (x8 : Int) (key : ByteArray) (x4 : List ByteArray) (x5 : List S47) (h5 : x5.length ≤ 3) (Q : (ByteArray × List ByteArray × ByteArray × ByteArray × List ByteArray × (List S47) × List ByteArray × ByteArray) → Prop)
    (H : ∀ subs, SubsOk subs → EvX (fun k => mD.l2 k (wrap64 (x8 + 1)) a0 a1 a2 a3 l4 l5 l6 a7 x0 x1 x2 x3 x4 (x5 ++ [⟨key, subs⟩]) ⟨#[]⟩) Q) :
    ∀ (d j : Nat) (subs : List ByteArray), (d : Int) + j = Int.tmod n 4 + 1 → subs.length = j → (∀ s ∈ subs, s ∈ wordsL) →
    EvX (fun k => mD.l3 k x8 n (j : Int) a0 a1 a2 a3 l4 l5 l6 a7 x0 x1 x2 x3 x4 x5 ⟨#[]⟩ key subs) Q := by
  have hm : 0 ≤ Int.tmod n 4 ∧ Int.tmod n 4 < 4 := ⟨Int.tmod_nonneg _ hn0, Int.tmod_lt_of_pos _ (by decide)⟩
  intro d
  induction d with
  | zero =>
    intro j subs hj h1 h2
    have c : ¬ ((j : Int) ≤ Int.tmod n 4) := by omega
    refine EvX.step (fun k => ?_) (H subs ⟨fun e => by rw [e] at h1; simp at h1; omega, by omega, h2⟩)
    show mD.l3 (k + 1) _ _ _ _ _ _ _ _ _ _ _ _ _ _ _ _ _ _ _ _ = _
    simp only [mD.l3]
    rw [if_neg c, if_pos (by omega)]
  | succ d ih =>
    intro j subs hj h1 h2
    have c : (j : Int) ≤ Int.tmod n 4 := by omega
    have hw : wrap64 ((j : Int) + 1) = ((j + 1 : Nat) : Int) := by unfold wrap64; omega
    obtain ⟨s, hs, he⟩ := Pick_in wordsL (wrap64 ((wrap64 (Int.tdiv n 4)) + (wrap64 ((wrap64 ((j : Int) * (j : Int))) * 3)))) (by decide) (by decide)
    refine EvX.step (f := fun k => mD.l3 k x8 n ((j + 1 : Nat) : Int) a0 a1 a2 a3 l4 l5 l6 a7 x0 x1 x2 x3 x4 x5 ⟨#[]⟩ key (subs ++ [s])) (fun k => ?_) (ih (j + 1) (subs ++ [s]) (by omega) (by rw [List.length_append, h1]; rfl) (fun t ht => ?_))
    · show mD.l3 (k + 1) _ _ _ _ _ _ _ _ _ _ _ _ _ _ _ _ _ _ _ _ = _
      simp only [mD.l3]
      have hw' : r6_words.f = some wordsL := rfl
      rw [if_pos c, hw', Option.bind_some, he, Option.bind_some, if_pos (by omega), hw]
    · rcases List.mem_append.1 ht with ht | ht
      · exact h2 t ht
      · rw [List.mem_singleton.1 ht]; exact hs
def ExtsOk (x5 : List S47) : Prop := ∀ (j : Nat) (x : S47), x5[j]? = some x → keysL[j]? = some x.f0 ∧ SubsOk x.f1
theorem l2_told (x4 : List ByteArray)
    (H : ∀ (x5 : List S47) (p : List ByteArray), x5.length ≤ 3 → ExtsOk x5 → p.length ≤ 3 → (∀ s ∈ p, s ∈ privL) → (l6 = [] → p = []) → BaseT ⟨x0, x1, x2, x3, x4, x5, p, ⟨#[]⟩⟩ l6) :
    ∀ (d i : Nat) (x5 : List S47), d + i = 3 → x5.length = i → ExtsOk x5 →
    EvX (fun k => mD.l2 k (i : Int) a0 a1 a2 a3 l4 l5 l6 a7 x0 x1 x2 x3 x4 x5 ⟨#[]⟩) (Told a7 l6) := by
  intro d
  have fin : ∀ (i : Nat) (x5 : List S47), ¬ ((i : Int) < (l5.length : Int) ∧ (i : Int) < 3) → x5.length ≤ 3 → ExtsOk x5 → EvX (fun k => mD.l2 k (i : Int) a0 a1 a2 a3 l4 l5 l6 a7 x0 x1 x2 x3 x4 x5 ⟨#[]⟩) (Told a7 l6) := by
    intro i x5 hi h1 h2
    refine EvX.step (f := fun k => mD.j6 k (i : Int) false a0 a1 a2 a3 l4 l5 l6 a7 x0 x1 x2 x3 x4 x5 ⟨#[]⟩) (fun k => ?_) ?_
    · show mD.l2 (k + 1) _ _ _ _ _ _ _ _ _ _ _ _ _ _ _ _ = _
      simp only [mD.l2]
      by_cases c : (i : Int) < (l5.length : Int)
      · rw [if_pos c, decide_eq_false (fun h => hi ⟨c, h⟩)]
      · rw [if_neg c]
    · refine EvX.step (f := fun k => mD.l4 k ((0 : Nat) : Int) a0 a1 a2 a3 l4 l5 l6 a7 x0 x1 x2 x3 x4 x5 [] ⟨#[]⟩) (fun k => ?_) (l4_told a0 a1 a2 a3 l4 l5 l6 a7 x0 x1 x2 x3 x4 x5 (fun p g1 g2 g3 => H x5 p h1 h2 g1 g2 g3) 3 0 [] rfl (Nat.le_refl _) (fun _ h => by cases h) (fun _ => rfl))
      show mD.j6 (k + 1) _ _ _ _ _ _ _ _ _ _ _ _ _ _ _ _ _ = _
      simp only [mD.j6]
      rfl
  induction d with
  | zero =>
    intro i x5 hi h1 h2
    exact fin i x5 (by omega) (by omega) h2
  | succ d ih =>
    intro i x5 hi h1 h2
    by_cases c : (i : Int) < (l5.length : Int)
    · have hi3 : i < 3 := by omega
      have hik : i < keysL.length := by show i < 4; omega
      have hw : wrap64 ((i : Int) + 1) = ((i + 1 : Nat) : Int) := by unfold wrap64; omega
      obtain ⟨n, hn⟩ : ∃ n, n = Int.tmod (wrap64 (Int.tmod (rd l5 (i : Int)) 1000 + 1000)) 1000 := ⟨_, rfl⟩
      have hn0 : 0 ≤ n ∧ n < 1000 := by
        have t1 : Int.tmod (rd l5 (i : Int)) 1000 < 1000 := Int.tmod_lt_of_pos _ (by decide)
        have t2 : -1000 < Int.tmod (rd l5 (i : Int)) 1000 := by
          have h := Int.tmod_lt_of_pos (-(rd l5 (i : Int))) (show (0 : Int) < 1000 by decide)
          rw [Int.neg_tmod] at h; omega
        have hw2 : wrap64 (Int.tmod (rd l5 (i : Int)) 1000 + 1000) = Int.tmod (rd l5 (i : Int)) 1000 + 1000 := by unfold wrap64; omega
        rw [hn, hw2]
        exact ⟨Int.tmod_nonneg _ (by omega), Int.tmod_lt_of_pos _ (by decide)⟩
      have hm : 0 ≤ Int.tmod n 4 ∧ Int.tmod n 4 < 4 := ⟨Int.tmod_nonneg _ hn0.1, Int.tmod_lt_of_pos _ (by decide)⟩
      obtain ⟨m, hmn⟩ : ∃ m : Nat, (m : Int) = Int.tmod n 4 + 1 := ⟨(Int.tmod n 4 + 1).toNat, by omega⟩
      have hkey : rdOf ByteArray.empty keysL (i : Int) = keysL[i] := by unfold rdOf; rw [Int.toNat_natCast, List.getD_eq_getElem?_getD, List.getElem?_eq_getElem hik]; rfl
      refine EvX.step (f := fun k => mD.j6 k (i : Int) true a0 a1 a2 a3 l4 l5 l6 a7 x0 x1 x2 x3 x4 x5 ⟨#[]⟩) (fun k => ?_) ?_
      · show mD.l2 (k + 1) _ _ _ _ _ _ _ _ _ _ _ _ _ _ _ _ = _
        simp only [mD.l2]
        rw [if_pos c, decide_eq_true (show (i : Int) < 3 by omega)]
      · refine EvX.step (f := fun k => mD.l3 k (i : Int) n ((0 : Nat) : Int) a0 a1 a2 a3 l4 l5 l6 a7 x0 x1 x2 x3 x4 x5 ⟨#[]⟩ keysL[i] []) (fun k => ?_) (l3_told a0 a1 a2 a3 l4 l5 l6 a7 x0 x1 x2 x3 n hn0.1 hn0.2 (i : Int) keysL[i] x4 x5 (by omega) _ (fun subs hs => ?_) m 0 [] (by omega) rfl (fun _ h => by cases h))
        · show mD.j6 (k + 1) _ _ _ _ _ _ _ _ _ _ _ _ _ _ _ _ _ = _
          simp only [mD.j6]
          have hy : (some [(⟨#[117]⟩ : ByteArray), (⟨#[116]⟩ : ByteArray), (⟨#[97]⟩ : ByteArray), (⟨#[57]⟩ : ByteArray)]) = some keysL := rfl
          have h4 : (i : Int) < (keysL.length : Int) := by show (i : Int) < ((4 : Nat) : Int); omega
          rw [hy]
          simp only [↓reduceIte, Option.bind_some]
          rw [if_pos (by omega), if_pos h4, if_pos c, ← hn, hkey]
          rfl
        · rw [hw]
          refine ih (i + 1) (x5 ++ [⟨keysL[i], subs⟩]) (by omega) (by rw [List.length_append, h1]; rfl) (fun j x hj => ?_)
          rcases Nat.lt_or_ge j x5.length with hlt | hge
          · rw [List.getElem?_append_left hlt] at hj
            exact h2 j x hj
          · rw [List.getElem?_append_right hge] at hj
            have hj0 : j - x5.length = 0 := by
              have := (List.getElem?_eq_some_iff.1 hj).1
              simp at this; omega
            rw [hj0] at hj
            obtain rfl := Option.some.inj hj
            have : j = i := by omega
            subst this
            exact ⟨List.getElem?_eq_getElem hik, hs⟩
    · exact fin i x5 (fun h => c h.1) (by omega) h2
theorem l1_told (Q : (ByteArray × List ByteArray × ByteArray × ByteArray × List ByteArray × (List S47) × List ByteArray × ByteArray) → Prop) (i : Int) (v : ByteArray) (x4 : List ByteArray) (h4 : x4.length ≤ 4) :
    ∀ (d j : Nat) (there : Bool), d + j = x4.length → (there = true → v ∈ x4) →
    (v ∈ x4 → EvX (fun k => mD.l0 k (wrap64 (i + 1)) a0 a1 a2 a3 l4 l5 l6 a7 x0 x1 x2 x3 x4 ⟨#[]⟩) Q) →
    (there = false → v ∉ x4.drop j → EvX (fun k => mD.l0 k (wrap64 (i + 1)) a0 a1 a2 a3 l4 l5 l6 a7 x0 x1 x2 x3 (x4 ++ [v]) ⟨#[]⟩) Q) →
    EvX (fun k => mD.l1 k i v there (j : Int) a0 a1 a2 a3 l4 l5 l6 a7 x0 x1 x2 x3 x4 ⟨#[]⟩) Q := by
  intro d
  induction d with
  | zero =>
    intro j there hj ht hy hn
    have c : ¬ ((j : Int) < (x4.length : Int)) := by omega
    cases there with
    | true =>
      refine EvX.step (fun k => ?_) (hy (ht rfl))
      show mD.l1 (k + 1) _ _ _ _ _ _ _ _ _ _ _ _ _ _ _ _ _ _ = _
      simp only [mD.l1]
      rw [if_neg c]
      rfl
    | false =>
      refine EvX.step (fun k => ?_) (hn rfl (by rw [List.drop_eq_nil_of_le (by omega)]; exact List.not_mem_nil))
      show mD.l1 (k + 1) _ _ _ _ _ _ _ _ _ _ _ _ _ _ _ _ _ _ = _
      simp only [mD.l1]
      rw [if_neg c]
      simp only [Bool.false_eq_true, ↓reduceIte]
      rw [if_pos (by omega)]
  | succ d ih =>
    intro j there hj ht hy hn
    have c : (j : Int) < (x4.length : Int) := by omega
    have hlt : j < x4.length := by omega
    have hw : wrap64 ((j : Int) + 1) = ((j + 1 : Nat) : Int) := by unfold wrap64; omega
    cases there with
    | true =>
      refine EvX.step (f := fun k => mD.l1 k i v true ((j + 1 : Nat) : Int) a0 a1 a2 a3 l4 l5 l6 a7 x0 x1 x2 x3 x4 ⟨#[]⟩) (fun k => ?_) (ih (j + 1) true (by omega) ht hy (fun h => by cases h))
      show mD.l1 (k + 1) _ _ _ _ _ _ _ _ _ _ _ _ _ _ _ _ _ _ = _
      simp only [mD.l1]
      rw [if_pos c, hw]
      rfl
    | false =>
      have hr : rdOf ByteArray.empty x4 (j : Int) = x4[j] := by unfold rdOf; rw [Int.toNat_natCast, List.getD_eq_getElem?_getD, List.getElem?_eq_getElem hlt]; rfl
      refine EvX.step (f := fun k => mD.l1 k i v (x4[j].toList == v.toList) ((j + 1 : Nat) : Int) a0 a1 a2 a3 l4 l5 l6 a7 x0 x1 x2 x3 x4 ⟨#[]⟩) (fun k => ?_) (ih (j + 1) _ (by omega) (fun h => ?_) hy (fun h hd => ?_))
      · show mD.l1 (k + 1) _ _ _ _ _ _ _ _ _ _ _ _ _ _ _ _ _ _ = _
        simp only [mD.l1]
        rw [if_pos c, hw]
        simp only [Bool.false_eq_true, ↓reduceIte]
        rw [if_pos (by omega), hr]
      · have e : x4[j] = v := by
          have h' : x4[j].toList = v.toList := by simpa using h
          rw [Go.ByteArray.toList_eq, Go.ByteArray.toList_eq] at h'
          exact ByteArray.ext (Array.toList_inj.1 h')
        rw [← e]; exact List.getElem_mem hlt
      · refine hn rfl (fun hm => ?_)
        rw [List.drop_eq_getElem_cons hlt] at hm
        rcases List.mem_cons.1 hm with e | hm
        · rw [← e] at h
          simp at h
        · exact hd hm
theorem l0_told
    (H : ∀ (x4 : List ByteArray) (x5 : List S47) (p : List ByteArray), x4.Nodup → x4.length ≤ 4 → (∀ v ∈ x4, v ∈ variantsL) → x5.length ≤ 3 → ExtsOk x5 → p.length ≤ 3 → (∀ s ∈ p, s ∈ privL) → (l6 = [] → p = []) → BaseT ⟨x0, x1, x2, x3, x4, x5, p, ⟨#[]⟩⟩ l6) :
    ∀ (d i : Nat) (x4 : List ByteArray), d + i = 4 → x4.length ≤ i → x4.Nodup → (∀ v ∈ x4, v ∈ variantsL) →
    EvX (fun k => mD.l0 k (i : Int) a0 a1 a2 a3 l4 l5 l6 a7 x0 x1 x2 x3 x4 ⟨#[]⟩) (Told a7 l6) := by
  intro d
  have fin : ∀ (i : Nat) (x4 : List ByteArray), ¬ ((i : Int) < (l4.length : Int) ∧ (i : Int) < 4) → x4.length ≤ 4 → x4.Nodup → (∀ v ∈ x4, v ∈ variantsL) → EvX (fun k => mD.l0 k (i : Int) a0 a1 a2 a3 l4 l5 l6 a7 x0 x1 x2 x3 x4 ⟨#[]⟩) (Told a7 l6) := by
    intro i x4 hi h1 h2 h3
    refine EvX.step (f := fun k => mD.j3 k (i : Int) false a0 a1 a2 a3 l4 l5 l6 a7 x0 x1 x2 x3 x4 ⟨#[]⟩) (fun k => ?_) ?_
    · show mD.l0 (k + 1) _ _ _ _ _ _ _ _ _ _ _ _ _ _ _ = _
      simp only [mD.l0]
      by_cases c : (i : Int) < (l4.length : Int)
      · rw [if_pos c, decide_eq_false (fun h => hi ⟨c, h⟩)]
      · rw [if_neg c]
    · refine EvX.step (f := fun k => mD.l2 k ((0 : Nat) : Int) a0 a1 a2 a3 l4 l5 l6 a7 x0 x1 x2 x3 x4 [] ⟨#[]⟩) (fun k => ?_) (l2_told a0 a1 a2 a3 l4 l5 l6 a7 x0 x1 x2 x3 x4 (fun x5 p g1 g2 g3 g4 g5 => H x4 x5 p h2 h1 h3 g1 g2 g3 g4 g5) 3 0 [] rfl rfl (fun j x hj => by simp at hj))
      show mD.j3 (k + 1) _ _ _ _ _ _ _ _ _ _ _ _ _ _ _ _ = _
      simp only [mD.j3]
      rfl
  induction d with
  | zero =>
    intro i x4 hi h1 h2 h3
    exact fin i x4 (by omega) (by omega) h2 h3
  | succ d ih =>
    intro i x4 hi h1 h2 h3
    by_cases c : (i : Int) < (l4.length : Int)
    · have hw : wrap64 ((i : Int) + 1) = ((i + 1 : Nat) : Int) := by unfold wrap64; omega
      obtain ⟨v, hv, he⟩ := Pick_in variantsL (rd l4 (i : Int)) (by decide) (by decide)
      refine EvX.step (f := fun k => mD.j3 k (i : Int) true a0 a1 a2 a3 l4 l5 l6 a7 x0 x1 x2 x3 x4 ⟨#[]⟩) (fun k => ?_) ?_
      · show mD.l0 (k + 1) _ _ _ _ _ _ _ _ _ _ _ _ _ _ _ = _
        simp only [mD.l0]
        rw [if_pos c, decide_eq_true (show (i : Int) < 4 by omega)]
      · refine EvX.step (f := fun k => mD.l1 k (i : Int) v false ((0 : Nat) : Int) a0 a1 a2 a3 l4 l5 l6 a7 x0 x1 x2 x3 x4 ⟨#[]⟩) (fun k => ?_) (l1_told a0 a1 a2 a3 l4 l5 l6 a7 x0 x1 x2 x3 _ (i : Int) v x4 (by omega) x4.length 0 false (by omega) (fun h => by cases h) (fun _ => ?_) (fun _ hn => ?_))
        · show mD.j3 (k + 1) _ _ _ _ _ _ _ _ _ _ _ _ _ _ _ _ = _
          simp only [mD.j3]
          have hw' : r6_variants.f = some variantsL := rfl
          rw [hw', Option.bind_some]
          simp only [↓reduceIte]
          rw [if_pos (show (0 : Int) ≤ (i : Int) by omega), if_pos c, he]
          rfl
        · rw [hw]
          exact ih (i + 1) x4 (by omega) (by omega) h2 h3
        · rw [hw]
          rw [List.drop_zero] at hn
          refine ih (i + 1) (x4 ++ [v]) (by omega) (by rw [List.length_append]; simp; omega) ?_ (fun t ht => ?_)
          · rw [List.nodup_append]
            exact ⟨h2, by simp, fun a ha b hb => by rw [List.mem_singleton.1 hb]; exact fun e => hn (e ▸ ha)⟩
          · rcases List.mem_append.1 ht with ht | ht
            · exact h3 t ht
            · rw [List.mem_singleton.1 ht]; exact hv
    · exact fin i x4 (fun h => c h.1) (by omega) h2 h3
end
theorem Made_told (a0 a1 a2 a3 : Int) (l4 l5 l6 : List Int) (a7 : Int) : EvX (fun k => r6_Made.f k a0 a1 a2 a3 l4 l5 l6 a7) (Told a7 l6) := by
  obtain ⟨x0, g0, e0⟩ := Pick_in langsL a0 (by decide) (by decide)
  obtain ⟨x2, g2, e2⟩ := Pick_in scriptsL a2 (by decide) (by decide)
  obtain ⟨x3, g3, e3⟩ := Pick_in regionsL a3 (by decide) (by decide)
  obtain ⟨x1, g1, e1⟩ := Pick_in extlL (wrap64 (Int.tdiv a1 4)) (by decide) (by decide)
  have fin : ∀ y1 : List ByteArray, (y1 = [] ∨ x0.size ≤ 3 ∧ ∃ e ∈ extlL, y1 = [e]) → EvX (fun k => mD.j1 k a0 a1 a2 a3 l4 l5 l6 a7 x0 y1 x2 x3 ⟨#[]⟩) (Told a7 l6) := by
    intro y1 hy
    refine EvX.step (f := fun k => mD.l0 k ((0 : Nat) : Int) a0 a1 a2 a3 l4 l5 l6 a7 x0 y1 x2 x3 [] ⟨#[]⟩) (fun k => ?_) (l0_told a0 a1 a2 a3 l4 l5 l6 a7 x0 y1 x2 x3 (fun x4 x5 p h1 h2 h3 h4 h5 h6 h7 h8 => ⟨g0, hy, g2, g3, ⟨h1, h2, h3⟩, ⟨h4, h5⟩, ⟨h6, h7⟩, h8, rfl⟩) 4 0 [] rfl (Nat.le_refl _) List.nodup_nil (fun _ h => by cases h))
    show mD.j1 (k + 1) _ _ _ _ _ _ _ _ _ _ _ _ _ = _
    simp only [mD.j1]
    rfl
  have no : EvX (fun k => mD.j0 k false a0 a1 a2 a3 l4 l5 l6 a7 x0 x2 x3 ⟨#[]⟩) (Told a7 l6) := by
    refine EvX.step (fun k => ?_) (fin [] (.inl rfl))
    show mD.j0 (k + 1) _ _ _ _ _ _ _ _ _ _ _ _ _ = _
    simp only [mD.j0, Bool.false_eq_true, ↓reduceIte]
  have yes : x0.size ≤ 3 → EvX (fun k => mD.j0 k true a0 a1 a2 a3 l4 l5 l6 a7 x0 x2 x3 ⟨#[]⟩) (Told a7 l6) := fun hs => by
    refine EvX.step (fun k => ?_) (fin [x1] (.inr ⟨hs, x1, g1, rfl⟩))
    show mD.j0 (k + 1) _ _ _ _ _ _ _ _ _ _ _ _ _ = _
    have e1' : r6_Pick.f [(⟨#[121, 117, 101]⟩ : ByteArray), (⟨#[99, 109, 110]⟩ : ByteArray), (⟨#[109, 105, 110]⟩ : ByteArray)] (wrap64 (Int.tdiv a1 4)) = some x1 := e1
    simp only [mD.j0, ↓reduceIte]
    rw [e1', Option.bind_some]
  unfold r6_Made.f
  have w0 : r6_langs.f = some langsL := rfl
  have w2 : r6_scripts.f = some scriptsL := rfl
  have w3 : r6_regions.f = some regionsL := rfl
  by_cases c : (x0.size : Int) ≤ 3
  · cases hb : (Int.tmod a1 4 == 1) with
    | true => exact EvX.congr (fun k => by simp only [w0, w2, w3, e0, e2, e3, Option.bind_some, c, ↓reduceIte, hb]) (yes (by omega))
    | false => exact EvX.congr (fun k => by simp only [w0, w2, w3, e0, e2, e3, Option.bind_some, c, ↓reduceIte, hb]) no
  · exact EvX.congr (fun k => by simp only [w0, w2, w3, e0, e2, e3, Option.bind_some, c, ↓reduceIte]) no
end Go.Proofs.YtejnfbfikadpdaaGreatDoor.Iso
