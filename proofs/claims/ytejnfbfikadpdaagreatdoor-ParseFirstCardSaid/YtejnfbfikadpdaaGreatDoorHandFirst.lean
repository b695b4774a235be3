/- parse.First, walked. -/
import Derived.Test.YtejnfbfikadpdaaGreatDoorHandDo1
import Derived.Shelf.Strings.Builder1
import Derived.Shelf.Strings.Builder2
import Derived.Shelf.Strings.OnBuilder
import Derived.Shelf.Strings.BuilderF
import Derived.Shelf.Strings.BuilderK
import Derived.Shelf.Strings.Builder2Cap
import Derived.Shelf.Strings.Search1
import Derived.Shelf.Strings.Search2
import Derived.Shelf.Strings.Search3
import Derived.Shelf.LaysM
import Derived.Shelf.Strings.Shaped
import Derived.Shelf.Strings.BuilderCap
import Derived.Shelf.Slices.Turned
import Derived.Test.YtejnfbfikadpdaaGreatDoorProg
import Derived.Test.YtejnfbfikadpdaaGreatDoorEvC
import Derived.Lib.Join
import Derived.Test.YtejnfbfikadpdaaGreatDoorSq
import Derived.Test.YtejnfbfikadpdaaGreatDoorHandLaw
import Derived.Test.YtejnfbfikadpdaaGreatDoorHandRec
import Derived.Test.YtejnfbfikadpdaaGreatDoorHandUse
import Derived.Test.YtejnfbfikadpdaaGreatDoorHand1
namespace Go.Proofs.YtejnfbfikadpdaaGreatDoor.P
open Go.RowKit Go.Proofs.YtejnfbfikadpdaaGreatDoorW.PrintWords Go.Proofs.YtejnfbfikadpdaaGreatDoor.Iso
set_option linter.unusedVariables false
set_option linter.unusedSimpArgs false
def firstN (ps : List Str) (s : ByteArray) : Nat → TG × ByteArray
  | 0 => (T0, s)
  | n + 1 => match parseR (mk (joinL (ps.take (n + 1)))) with
    | .good U => (U, mk (joinL (ps.drop (n + 1))))
    | .bad _ _ _ => firstN ps s n
def firstB (s : ByteArray) : Nat → TG × ByteArray
  | 0 => (T0, s)
  | n + 1 => if n + 1 < s.size ∧ (bl s)[n + 1]? ≠ some 45 then firstB s n else
    match parseR (mk ((bl s).take (n + 1))) with
    | .good U => (U, mk ((bl s).drop (min (n + 2) s.size)))
    | .bad _ _ _ => firstB s n
theorem parse_nil : (match parseR (mk []) with | .good _ => true | .bad _ _ _ => false) = false := by decide +kernel
theorem firstB_skip (s : ByteArray) (p : Nat) : ∀ d, (∀ j, p < j → j ≤ p + d → j < s.size ∧ (bl s)[j]? ≠ some 45) → firstB s (p + d) = firstB s p
  | 0, _ => rfl
  | d + 1, h => by
    show (if p + d + 1 < s.size ∧ (bl s)[p + d + 1]? ≠ some 45 then firstB s (p + d) else _) = _
    rw [if_pos (h (p + d + 1) (by omega) (by omega))]
    exact firstB_skip s p d fun j h1 h2 => h j h1 (by omega)
theorem first_at (s : ByteArray) (ps : List Str) (hj : joinL ps = bl s) (hd : ∀ p ∈ ps, noDash p) : ∀ k, k ≤ ps.length → firstB s (joinL (ps.take k)).length = firstN ps s k
  | 0, _ => rfl
  | k + 1, hk => by
    have ih := first_at s ps hj hd k (by omega)
    have hne : ps.take (k + 1) ≠ [] := by
      intro e
      have := congrArg List.length e
      rw [List.length_take, List.length_nil] at this
      omega
    have hs : bl s = joinL (ps.take (k + 1)) ++ tailJ (ps.drop (k + 1)) := by rw [← joinL_append _ _ hne, List.take_append_drop, hj]
    have hlt : k < ps.length := hk
    have ht : ps.take (k + 1) = ps.take k ++ [ps[k]] := List.take_succ_eq_append_getElem hlt
    have hB : joinL (ps.take (k + 1)) = if k = 0 then ps[k] else joinL (ps.take k) ++ 45 :: ps[k] := by
      by_cases k0 : k = 0
      · subst k0
        rw [if_pos rfl, ht, List.take_zero]; simp [joinL, tailJ]
      · rw [if_neg k0, ht, joinL_append _ _ (by intro e; have := congrArg List.length e; rw [List.length_take, List.length_nil] at this; omega)]
        simp [tailJ]
    have hsz : s.size = (joinL (ps.take (k + 1))).length + (tailJ (ps.drop (k + 1))).length := by rw [← bl_len, hs, List.length_append]
    have hp : noDash ps[k] := hd _ (List.getElem_mem hlt)
    generalize hBB : joinL (ps.take (k + 1)) = B at hs hB hsz
    have hfirst : firstN ps s (k + 1) = match parseR (mk B) with
      | .good U => (U, mk (joinL (ps.drop (k + 1))))
      | .bad _ _ _ => firstN ps s k := by rw [← hBB]; rfl
    rw [hfirst]
    cases hn : B.length with
    | zero =>
      have hB0 : B = [] := List.length_eq_zero_iff.1 hn
      have hA : (joinL (ps.take k)).length = 0 := by
        by_cases k0 : k = 0
        · subst k0; rfl
        · rw [hB, if_neg k0] at hn
          simp at hn
      rw [hA] at ih
      rw [← ih, hB0]
      have := parse_nil
      cases hr : parseR (mk []) with
      | good U => rw [hr] at this; cases this
      | bad a b c => rfl
    | succ m =>
      have hc : ¬ (m + 1 < s.size ∧ (bl s)[m + 1]? ≠ some 45) := by
        rintro ⟨h1, h2⟩
        cases hdr : ps.drop (k + 1) with
        | nil => rw [hdr] at hsz; simp [tailJ] at hsz; omega
        | cons q t =>
          rw [hs, hdr, List.getElem?_append_right (by omega), hn, Nat.sub_self] at h2
          exact h2 rfl
      have hB1 : firstB s (m + 1) = match parseR (mk ((bl s).take (m + 1))) with
        | .good U => (U, mk ((bl s).drop (min (m + 2) s.size)))
        | .bad _ _ _ => firstB s m := by
        show (if m + 1 < s.size ∧ (bl s)[m + 1]? ≠ some 45 then firstB s m else _) = _
        rw [if_neg hc]
      rw [hB1, show (bl s).take (m + 1) = B by rw [hs, ← hn, List.take_left]]
      cases hr : parseR (mk B) with
      | good U =>
        show (U, _) = (U, _)
        congr 2
        cases hdr : ps.drop (k + 1) with
        | nil =>
          rw [hdr] at hsz hs
          simp [tailJ] at hsz hs
          rw [hsz, hs, hn, Nat.min_eq_right (by omega), ← hn, List.drop_length]; rfl
        | cons q t =>
          rw [hdr] at hsz hs
          have e : tailJ (q :: t) = 45 :: joinL (q :: t) := rfl
          rw [e] at hsz hs
          rw [List.length_cons] at hsz
          rw [Nat.min_eq_left (by omega), hs, show m + 2 = B.length + 1 by omega, List.drop_length_add_append]; rfl
      | bad a b c =>
        show firstB s m = firstN ps s k
        rw [← ih]
        have hle : (joinL (ps.take k)).length ≤ m := by
          by_cases k0 : k = 0
          · subst k0; exact Nat.zero_le _
          · rw [hB, if_neg k0] at hn
            simp at hn
            omega
        obtain ⟨d, rfl⟩ := Nat.exists_eq_add_of_le hle
        refine firstB_skip s _ d fun j h1 h2 => ⟨by omega, fun hj2 => ?_⟩
        rw [hs, List.getElem?_append_left (by omega), hB] at hj2
        by_cases k0 : k = 0
        · rw [if_pos k0] at hj2
          exact hp 45 (List.mem_of_getElem? hj2) rfl
        · rw [if_neg k0, List.getElem?_append_right (by omega)] at hj2
          rw [show j - (joinL (ps.take k)).length = (j - (joinL (ps.take k)).length - 1) + 1 by omega, List.getElem?_cons_succ] at hj2
          exact hp 45 (List.mem_of_getElem? hj2) rfl
theorem first_same (s : ByteArray) : firstB s s.size = firstN (split (bl s)) s (split (bl s)).length := by
  have := first_at s (split (bl s)) (join_split _) (split_noDash _) _ (Nat.le_refl _)
  rwa [List.take_length, join_split, bl_len] at this
end Go.Proofs.YtejnfbfikadpdaaGreatDoor.P
namespace Go.Proofs
open Go.Shelf
def Tryz.lays156_ren : Go.Shelf.Ren := ⟨fun | 156 => 133 | 165 => 153 | 166 => 154 | 169 => 155 | 240 => 164 | 241 => 165 | 276 => 166 | 277 => 167 | n => n, fun | 31 => 26 | 9 => 9 | 3 => 3 | 4 => 4 | 0 => 0 | 20 => 20 | 72 => 176 | 76 => 178 | 70 => 174 | 37 => 79 | 75 => 33 | 127 => 188 | 164 => 117 | 5 => 5 | 80 => 113 | n => n, fun | n => n⟩
theorem Tryz.lays156 : Go.Proofs.Lays.n156 Tryz.prog Tryz.lays156_ren := {
  mixed := by kernel_rfl
  f156 := Tryz.func133.trans (congrArg some (by kernel_rfl))
  f165 := Tryz.func153.trans (congrArg some (by kernel_rfl))
  f166 := Tryz.func154.trans (congrArg some (by kernel_rfl))
  f169 := Tryz.func155.trans (congrArg some (by kernel_rfl))
  f240 := Tryz.func164.trans (congrArg some (by kernel_rfl))
  f241 := Tryz.func165.trans (congrArg some (by kernel_rfl))
  f276 := Tryz.func166.trans (congrArg some (by kernel_rfl))
  f277 := Tryz.func167.trans (congrArg some (by kernel_rfl))
  t0 := Tryz.underlying0
  a0 := Tryz.isAgg0
  z0 := Tryz.sizeOf0
  v0 := Tryz.zeroValue0
  t3 := Tryz.underlying3
  a3 := Tryz.isAgg3
  z3 := Tryz.sizeOf3
  v3 := Tryz.zeroValue3
  t4 := Tryz.underlying4
  a4 := Tryz.isAgg4
  z4 := Tryz.sizeOf4
  v4 := Tryz.zeroValue4
  t9 := Tryz.underlying9
  a9 := Tryz.isAgg9
  z9 := Tryz.sizeOf9
  v9 := Tryz.zeroValue9
  t20 := Tryz.underlying20
  a20 := Tryz.isAgg20
  z20 := Tryz.sizeOf20
  v20 := Tryz.zeroValue20
  t31 := Tryz.underlying26
  a31 := Tryz.isAgg26
  z31 := Tryz.sizeOf26
  v31 := Tryz.zeroValue26
  t37 := Tryz.underlying79
  a37 := Tryz.isAgg79
  z37 := Tryz.sizeOf79
  v37 := Tryz.zeroValue79
  t70 := Tryz.underlying174
  a70 := Tryz.isAgg174
  z70 := Tryz.sizeOf174
  v70 := Tryz.zeroValue174
  t72 := Tryz.underlying176
  a72 := Tryz.isAgg176
  z72 := Tryz.sizeOf176
  v72 := Tryz.zeroValue176
  t75 := Tryz.underlying33
  a75 := Tryz.isAgg33
  z75 := Tryz.sizeOf33
  v75 := Tryz.zeroValue33
  t76 := Tryz.underlying178
  a76 := Tryz.isAgg178
  z76 := Tryz.sizeOf178
  v76 := Tryz.zeroValue178
  t127 := Tryz.underlying188
  a127 := Tryz.isAgg188
  z127 := Tryz.sizeOf188
  v127 := Tryz.zeroValue188
  t164 := Tryz.underlying117
  a164 := Tryz.isAgg117
  z164 := Tryz.sizeOf117
  v164 := Tryz.zeroValue117 }
theorem Tryz.Builder_Extra_156 : Builder.Extra Tryz.prog Tryz.lays156_ren := {
  sizeBuilder := by kernel_rfl
  liesBuilder := by kernel_rfl
  t5 := Tryz.underlying5
  a5 := Tryz.isAgg5
  z5 := Tryz.sizeOf5
  v5 := Tryz.zeroValue5
  infoByte := by kernel_rfl
  cellsByte := by kernel_rfl
  sizeByte := by kernel_rfl
  neB5 := by decide }
open Go.RowKit in
theorem Tryz.strings_Join_none (a : Option Addr) (c : Nat) (sep : ByteArray) (w : World) :
    Calls Tryz.prog 133 #[.slice a 0 c, .string sep] w fun e w' => e = .returned (.string ⟨#[]⟩) ∧ w' = w := Any.strings_Join_none Tryz.lays156 Tryz.Builder_Extra_156 a c sep w
open Go.RowKit in
theorem Tryz.strings_Join (bk o c : Nat) (xs : List ByteArray) (sep : ByteArray) (w : World) (hcells : ∀ (j : Nat) x, xs[j]? = some x → w.cell? ⟨bk, o + j, none⟩ = some (.string x)) (hbk : bk < w.heap.size) (hN : xs.length ≤ 140737488355328) (hcap : xs.length ≤ c) (hlen : (Lib.join (xs.map (·.data.toList)) sep.data.toList).length ≤ 140737488355328) :
    Calls Tryz.prog 133 #[.slice (some ⟨bk, o, none⟩) xs.length c, .string sep] w fun e w' => e = .returned (.string ⟨(Lib.join (xs.map (·.data.toList)) sep.data.toList).toArray⟩) ∧ Below w.heap.size w w' := Any.strings_Join Tryz.lays156 Tryz.Builder_Extra_156 bk o c xs sep w hcells hbk hN hcap hlen
end Go.Proofs
namespace Go.Proofs.YtejnfbfikadpdaaGreatDoor.P
open Go.RowKit Go.Shelf Go.Proofs.YtejnfbfikadpdaaGreatDoorW.PrintWords Go.Proofs.YtejnfbfikadpdaaGreatDoorW.PrintLast Go.Proofs.YtejnfbfikadpdaaGreatDoorW.PrintMore Go.Proofs.YtejnfbfikadpdaaGreatDoor.Iso
set_option linter.unusedVariables false
set_option linter.unusedSimpArgs false
theorem libJoin : ∀ (ps : List Str), Lib.join ps [45] = joinL ps
  | [] => rfl
  | [p] => by rw [Lib.join_one]; simp [joinL, tailJ]
  | p :: q :: t => by
    have ih := libJoin (q :: t)
    unfold Lib.join at ih ⊢
    rw [List.intercalate_cons_cons, ih]
    simp [joinL, tailJ]
def strings_Join.f (l0 : List ByteArray) (a1 : ByteArray) : Option ByteArray := if l0.length ≤ 140737488355328 ∧ (Lib.join (l0.map (·.data.toList)) a1.data.toList).length ≤ 140737488355328 then some ⟨(Lib.join (l0.map (·.data.toList)) a1.data.toList).toArray⟩ else none
theorem strings_Join.calls (A0 : Option Addr) (c0 : Nat) (l0 : List ByteArray) (a1 : ByteArray) (r : ByteArray) (w : World) (hr0 : Kd.C Kd.string w A0 l0.length l0) (hc0 : l0.length ≤ c0) (h : strings_Join.f l0 a1 = some r) :
    Calls Tryz.prog 133 #[.slice A0 l0.length c0, .string a1] w fun e w' => e = .returned (.string r) ∧ Below w.heap.size w w' := by
  unfold strings_Join.f at h
  by_cases c : l0.length ≤ 140737488355328 ∧ (Lib.join (l0.map (·.data.toList)) a1.data.toList).length ≤ 140737488355328
  · rw [if_pos c] at h
    obtain rfl := Option.some.inj h
    cases l0 with
    | nil =>
      refine (Tryz.strings_Join_none A0 c0 a1 w).mono ?_
      rintro e w' ⟨rfl, rfl⟩
      exact ⟨rfl, Below.refl _ _⟩
    | cons x xs =>
      have hr := Kd.reads_of_C (enc := Value.string) (d := ByteArray.empty) (h1 := fun _ => rfl) hr0
      obtain ⟨ad, rfl, hcell⟩ := hr.2.2 (by simp)
      have h0 := hcell 0 (by simp)
      have hs : ad.spot = none := by
        cases hs : ad.spot with
        | none => rfl
        | some q =>
          have e0 : ad.add 0 = ad := by simp [Addr.add]
          rw [e0] at h0
          unfold World.cell? at h0
          split at h0
          · simp [hs] at h0
          · simp at h0
      obtain ⟨bk, o, sp⟩ := ad
      obtain rfl : sp = none := hs
      have hlt : bk < w.heap.size := World.block_lt_of_cell? w _ h0
      refine (Tryz.strings_Join bk o c0 (x :: xs) a1 w (fun j y hj => ?_) hlt c.1 hc0 c.2).mono ?_
      · have hl := (List.getElem?_eq_some_iff.1 hj).1
        have := hcell j hl
        rw [List.getD_eq_getElem?_getD, hj] at this
        have e1 : (⟨bk, o, none⟩ : Addr).add j = ⟨bk, o + j, none⟩ := by unfold Addr.add; split <;> simp_all
        rw [e1] at this
        exact this
      · rintro e w' ⟨rfl, hb⟩
        exact ⟨rfl, hb⟩
  · rw [if_neg c] at h; cases h
theorem join_calls {w : World} {A : Option Addr} {c : Nat} {l : List ByteArray} (h : Kd.C Kd.string w A l.length l) (hc : l.length ≤ c) (hl : l.length ≤ 4398046511105) (hj : (joinL (l.map bl)).length ≤ 4398046511104) :
    Calls Tryz.prog 101 #[.slice A l.length c] w fun e w' => e = .returned (.string (mk (joinL (l.map bl)))) ∧ Below w.heap.size w w' := by
  have H := Lib.hid (strings_Join.calls A c l ⟨#[45]⟩ (mk (joinL (l.map bl))) w h hc (by
    have e2 : (⟨#[45]⟩ : ByteArray).data.toList = [45] := rfl
    unfold strings_Join.f
    rw [e2, libJoin, if_pos ⟨by omega, by show (joinL (l.map bl)).length ≤ _; omega⟩]
    rfl))
  clear h hc hl hj
  go_enter Tryz.func101, Tryz.ntmps101
  go_wp2_with (go_at_call 133; refine H.out.mono ?_; rintro e w2 ⟨rfl, hb⟩; have HB := Lib.hid hb; clear hb)
  go_ret
  exact ⟨rfl, HB.out⟩
end Go.Proofs.YtejnfbfikadpdaaGreatDoor.P
namespace Go.Proofs.YtejnfbfikadpdaaGreatDoor.P
open Go.RowKit Go.Shelf Go.Proofs.YtejnfbfikadpdaaGreatDoorW.PrintWords Go.Proofs.YtejnfbfikadpdaaGreatDoorW.PrintLast Go.Proofs.YtejnfbfikadpdaaGreatDoorW.PrintMore Go.Proofs.YtejnfbfikadpdaaGreatDoor.Iso
set_option linter.unusedVariables false
set_option linter.unusedSimpArgs false
attribute [local go_sem] Oper.semAt_some
def pf7_T : Bool × List (List Nat × List Nat) := (true, [([], []), ([], []), ([], []), ([1, 2], [1, 2]), ([3], [3]), ([0, 4, 0], [0]), ([4, 5, 0, 1, 2, 3, 4, 5], [4])])
def pf7_B : List Nat := [0, 0, 0, 6, 14, 31, 63]
theorem pf7_tab : rtab .any (opsOf Tryz.f63 7) = pf7_T := by kernel_rfl
theorem pf7_bits : waitsOk pf7_T.2 pf7_B = true := by kernel_rfl
theorem add_none (b o k : Nat) : (⟨b, o, none⟩ : Addr).add k = ⟨b, o + k, none⟩ := by unfold Addr.add; split <;> simp_all
theorem row_addr {w : World} {A : Option Addr} {l : List ByteArray} (h : Kd.C Kd.string w A l.length l) (hn : 0 < l.length) : ∃ b o, A = some ⟨b, o, none⟩ := by
  have hr := Kd.reads_of_C (enc := Value.string) (d := ByteArray.empty) (h1 := fun _ => rfl) h
  obtain ⟨ad, rfl, hcell⟩ := hr.2.2 hn
  have h0 := hcell 0 hn
  have hs : ad.spot = none := by
    cases hs : ad.spot with
    | none => rfl
    | some q =>
      have e0 : ad.add 0 = ad := by simp [Addr.add]
      rw [e0] at h0
      unfold World.cell? at h0
      split at h0
      · simp [hs] at h0
      · simp at h0
  obtain ⟨bk, o, sp⟩ := ad
  obtain rfl : sp = none := hs
  exact ⟨bk, o, rfl⟩
theorem cells8k {w : World} {b g : Nat} {t : TypeId} {x0 x1 x2 x3 x4 x5 x6 x7 : Value} (h : w.heap[b]? = some (.cells #[x0, x1, x2, x3, x4, x5, x6, x7] t (0, 0))) (hne : b ≠ g) (u0 u1 u2 u3 u4 u5 u6 u7 : Value) :
    ((((((((w.setCell ⟨g, 0, none⟩ u0).setCell ⟨g, 1, none⟩ u1).setCell ⟨g, 2, none⟩ u2).setCell ⟨g, 3, none⟩ u3).setCell ⟨g, 4, none⟩ u4).setCell ⟨g, 5, none⟩ u5).setCell ⟨g, 6, none⟩ u6).setCell ⟨g, 7, none⟩ u7).cell? ⟨b, 0, none⟩ = some x0 ∧ ((((((((w.setCell ⟨g, 0, none⟩ u0).setCell ⟨g, 1, none⟩ u1).setCell ⟨g, 2, none⟩ u2).setCell ⟨g, 3, none⟩ u3).setCell ⟨g, 4, none⟩ u4).setCell ⟨g, 5, none⟩ u5).setCell ⟨g, 6, none⟩ u6).setCell ⟨g, 7, none⟩ u7).cell? ⟨b, 1, none⟩ = some x1 ∧ ((((((((w.setCell ⟨g, 0, none⟩ u0).setCell ⟨g, 1, none⟩ u1).setCell ⟨g, 2, none⟩ u2).setCell ⟨g, 3, none⟩ u3).setCell ⟨g, 4, none⟩ u4).setCell ⟨g, 5, none⟩ u5).setCell ⟨g, 6, none⟩ u6).setCell ⟨g, 7, none⟩ u7).cell? ⟨b, 2, none⟩ = some x2 ∧ ((((((((w.setCell ⟨g, 0, none⟩ u0).setCell ⟨g, 1, none⟩ u1).setCell ⟨g, 2, none⟩ u2).setCell ⟨g, 3, none⟩ u3).setCell ⟨g, 4, none⟩ u4).setCell ⟨g, 5, none⟩ u5).setCell ⟨g, 6, none⟩ u6).setCell ⟨g, 7, none⟩ u7).cell? ⟨b, 3, none⟩ = some x3 ∧ ((((((((w.setCell ⟨g, 0, none⟩ u0).setCell ⟨g, 1, none⟩ u1).setCell ⟨g, 2, none⟩ u2).setCell ⟨g, 3, none⟩ u3).setCell ⟨g, 4, none⟩ u4).setCell ⟨g, 5, none⟩ u5).setCell ⟨g, 6, none⟩ u6).setCell ⟨g, 7, none⟩ u7).cell? ⟨b, 4, none⟩ = some x4 ∧ ((((((((w.setCell ⟨g, 0, none⟩ u0).setCell ⟨g, 1, none⟩ u1).setCell ⟨g, 2, none⟩ u2).setCell ⟨g, 3, none⟩ u3).setCell ⟨g, 4, none⟩ u4).setCell ⟨g, 5, none⟩ u5).setCell ⟨g, 6, none⟩ u6).setCell ⟨g, 7, none⟩ u7).cell? ⟨b, 5, none⟩ = some x5 ∧ ((((((((w.setCell ⟨g, 0, none⟩ u0).setCell ⟨g, 1, none⟩ u1).setCell ⟨g, 2, none⟩ u2).setCell ⟨g, 3, none⟩ u3).setCell ⟨g, 4, none⟩ u4).setCell ⟨g, 5, none⟩ u5).setCell ⟨g, 6, none⟩ u6).setCell ⟨g, 7, none⟩ u7).cell? ⟨b, 6, none⟩ = some x6 ∧ ((((((((w.setCell ⟨g, 0, none⟩ u0).setCell ⟨g, 1, none⟩ u1).setCell ⟨g, 2, none⟩ u2).setCell ⟨g, 3, none⟩ u3).setCell ⟨g, 4, none⟩ u4).setCell ⟨g, 5, none⟩ u5).setCell ⟨g, 6, none⟩ u6).setCell ⟨g, 7, none⟩ u7).cell? ⟨b, 7, none⟩ = some x7 := cells8p ((keep8 hne w u0 u1 u2 u3 u4 u5 u6 u7).trans h)
theorem rows_none (W : World) : RowsC W T0 none 0 none 0 none 0 none 0 :=
  ⟨C_none _ _ _, C_none _ _ _, ⟨⟨rfl, Nat.zero_le _, fun h => absurd h (Nat.lt_irrefl _)⟩, Nat.le_refl _⟩, C_none _ _ _⟩
theorem tailJ_len (a : List Str) : ∀ n, (tailJ (a.drop n)).length ≤ (tailJ a).length
  | 0 => Nat.le_refl _
  | n + 1 => by
    cases a with
    | nil => exact Nat.le_refl _
    | cons p t =>
      have := tailJ_len t n
      show (tailJ (t.drop n)).length ≤ (45 :: (p ++ tailJ t)).length
      rw [List.length_cons, List.length_append]
      omega
theorem joinL_le_tail (a : List Str) : (joinL a).length ≤ (tailJ a).length := by
  cases a with
  | nil => exact Nat.le_refl _
  | cons p t =>
    show (p ++ tailJ t).length ≤ (45 :: (p ++ tailJ t)).length
    rw [List.length_cons]; omega
theorem joinL_drop_le (a : List Str) (n : Nat) : (joinL (a.drop n)).length ≤ (joinL a).length := by
  cases n with
  | zero => exact Nat.le_refl _
  | succ n =>
    cases a with
    | nil => exact Nat.le_refl _
    | cons p t =>
      have h1 := joinL_le_tail (t.drop n)
      have h2 := tailJ_len t n
      show (joinL (t.drop n)).length ≤ (p ++ tailJ t).length
      rw [List.length_append]
      omega
theorem joinL_take_le (a : List Str) (n : Nat) : (joinL (a.take n)).length ≤ (joinL a).length := by
  by_cases h : a.take n = []
  · rw [h]; exact Nat.zero_le _
  · have := congrArg List.length (joinL_append (a.take n) (a.drop n) h)
    rw [List.take_append_drop, List.length_append] at this
    omega
set_option maxRecDepth 100000 in
set_option maxHeartbeats 16000000 in
theorem First_calls (s : ByteArray) (hs : s.size ≤ 900000) (w : World) (hN : NamesIn w) :
    Calls Tryz.prog 63 #[.string s] w fun e W' => ∃ A1 c1 A4 c4 A5 c5 A6 c6, e = .returned (.tuple #[.agg (tagCells (firstN (split (bl s)) s (split (bl s)).length).1 A1 c1 A4 c4 A5 c5 A6 c6), .string (firstN (split (bl s)) s (split (bl s)).length).2]) ∧ RowsC W' (firstN (split (bl s)) s (split (bl s)).length).1 A1 c1 A4 c4 A5 c5 A6 c6 ∧ Below w.heap.size w W' := by
  obtain ⟨R, hR⟩ : ∃ R, (firstN (split (bl s)) s (split (bl s)).length) = R := ⟨_, rfl⟩
  rw [hR]
  obtain ⟨L, hL⟩ : ∃ L, L = (split (bl s)).map mk := ⟨_, rfl⟩
  have hLB : L.map bl = split (bl s) := by
    rw [hL, List.map_map]
    conv => rhs; rw [← List.map_id (split (bl s))]
    exact List.map_congr_left fun p _ => bl_mk p
  have hLL : L.length = (split (bl s)).length := by rw [hL, List.length_map]
  have HLN := Lib.hid (show L.length ≤ 900001 from by
    have := split_length (bl s)
    rw [bl_len] at this
    omega)
  have HSP := Lib.hid (fun W : World => split_Split.calls s L W (by rw [hL]; exact split_Split_eq s (by omega)))
  have JT := Lib.hid (show ∀ (n : Nat), (joinL ((L.take n).map bl)).length ≤ 900000 ∧ (joinL ((L.drop n).map bl)).length ≤ 900000 from fun n => by
    rw [List.map_take, List.map_drop, hLB]
    have h1 := joinL_take_le (split (bl s)) n
    have h2 := joinL_drop_le (split (bl s)) n
    rw [join_split, bl_len] at h1 h2
    exact ⟨by omega, by omega⟩)
  have HST := Lib.hid (show ∀ m : Nat, firstN (split (bl s)) s (m + 1) = match parseR (mk (joinL ((L.take (m + 1)).map bl))) with | .good U => (U, mk (joinL ((L.drop (m + 1)).map bl))) | .bad _ _ _ => firstN (split (bl s)) s m from fun m => by
    rw [List.map_take, List.map_drop, hLB]; rfl)
  have HN := Lib.hid hN
  have HR0 := Lib.hid (show firstN (split (bl s)) s L.length = R by rw [hLL]; exact hR)
  have HB0 := Lib.hid (below_alloc (Below.refl w.heap.size w) (.cells #[.string ⟨#[]⟩, .slice none 0 0, .string ⟨#[]⟩, .string ⟨#[]⟩, .slice none 0 0, .slice none 0 0, .slice none 0 0, .string ⟨#[]⟩] 29))
  have K0 := Lib.hid (new_blk w (.cells #[.string ⟨#[]⟩, .slice none 0 0, .string ⟨#[]⟩, .string ⟨#[]⟩, .slice none 0 0, .slice none 0 0, .slice none 0 0, .string ⟨#[]⟩] 29))
  clear hN hs hR hL hLB hLL
  go_enter Tryz.func63, Tryz.ntmps63
  go_wp2_with (go_at_call 100; refine (HSP.out _).mono ?_; rintro e w2 ⟨v2, rfl, hr, hb⟩; obtain ⟨A_, c_, hv2⟩ := Kd.R_slice hr; subst hv2; have HC2 := Lib.hid (Kd.R_reads' hr).2; have HB2 := Lib.hid (below_step HB0.out hb); have K2 := Lib.hid (blk_on K0.out hb); clear hr hb HB0 K0 HSP)
  go_loopw [5] (fun v5 wr => ∃ n : Nat, v5 = .int .i64 (n : Int) ∧ Hid (n ≤ L.length) ∧ Hid (firstN (split (bl s)) s n = R) ∧ Hid (Below w.heap.size w wr) ∧ Hid (Kd.C Kd.string wr A_ L.length L) ∧ Hid (wr.heap[w.heap.size]? = some (.cells #[.string ⟨#[]⟩, .slice none 0 0, .string ⟨#[]⟩, .string ⟨#[]⟩, .slice none 0 0, .slice none 0 0, .slice none 0 0, .string ⟨#[]⟩] 29 (0, 0)))) (fun v5 _ => (intOf v5).toNat)
  case atStart => exact ⟨L.length, rfl, Lib.hid (Nat.le_refl _), HR0, HB2, Lib.hid HC2.out.2, K2⟩
  case round =>
    have HCC := Lib.hid HC2.out.1
    clear HB2 K2 HR0 HC2
    obtain ⟨n, rfl, hn, hf, hW, hC, hK⟩ := hrel
    cases n with
    | zero =>
      have q0 : decide (((0 : Nat) : Int) > 0) = false := by decide
      have hr : R = (T0, s) := hf.out.symm
      subst hr
      obtain ⟨k0, k1, k2, k3, k4, k5, k6, k7⟩ := cells8p hK.out
      have f0 := blk_frozen hK.out 0
      have f1 := blk_frozen hK.out 1
      have f2 := blk_frozen hK.out 2
      have f3 := blk_frozen hK.out 3
      have f4 := blk_frozen hK.out 4
      have f5 := blk_frozen hK.out 5
      have f6 := blk_frozen hK.out 6
      have f7 := blk_frozen hK.out 7
      go_wp2
      refine bodyPost_ret (results_ct rfl _ _ w.heap.size 29 #[.string ⟨#[]⟩, .slice none 0 0, .string ⟨#[]⟩, .string ⟨#[]⟩, .slice none 0 0, .slice none 0 0, .slice none 0 0, .string ⟨#[]⟩] (0, 0) _ rfl (put8 hK.out _ _ _ _ _ _ _ _) Tryz.underlying29 rfl (by kernel_rfl)) rfl ?_
      exact ⟨none, 0, none, 0, none, 0, none, 0, rfl, rows_none _, below8 hW.out (Nat.le_refl _) _ _ _ _ _ _ _ _⟩
    | succ m =>
      have q0 : decide (((m + 1 : Nat) : Int) > 0) = true := decide_eq_true (by omega)
      have HX := Lib.hid hn
      have w1 : wrap64 (((m + 1 : Nat) : Int) - 1) = (m : Int) := by have := HLN.out; have := hn.out; unfold wrap64; omega
      have q2 : (0 : Int) ≤ ((m + 1 : Nat) : Int) := by omega
      have q3 : ((m + 1 : Nat) : Int) ≤ (c_ : Int) := by have := HCC.out; have := hn.out; omega
      have q4 : ((m + 1 : Nat) : Int) ≤ (L.length : Int) := by have := hn.out; omega
      obtain ⟨x, hx⟩ : ∃ x, x = mk (joinL ((L.take (m + 1)).map bl)) := ⟨_, rfl⟩
      have hst := HST.out m
      rw [hf.out, ← hx] at hst
      have hxs : x.size ≤ 900000 := by rw [hx, mk_size]; exact (JT.out (m + 1)).1
      have JC := Lib.hid (show ∀ W, Kd.C Kd.string W A_ L.length L → Calls Tryz.prog 101 #[.slice A_ (m + 1) c_] W fun e W' => e = .returned (.string x) ∧ Below W.heap.size W W' from fun W h => by
        have ht : (L.take (m + 1)).length = m + 1 := by rw [List.length_take]; have := HX.out; omega
        have := join_calls (w := W) (A := A_) (c := c_) (l := L.take (m + 1)) (Kd.C_take h HX.out) (by rw [ht]; have := HCC.out; have := HX.out; omega) (by rw [ht]; have := HLN.out; have := HX.out; omega) (by have := (JT.out (m + 1)).1; omega)
        rwa [ht, ← hx] at this)
      cases hr : parseR x with
      | good U =>
        rw [hr] at hst
        have PG := Lib.hid (fun (W : World) (h : NamesIn W) => Parse_own hr hxs W h)
        obtain ⟨y, hy⟩ : ∃ y, y = mk (joinL ((L.drop (m + 1)).map bl)) := ⟨_, rfl⟩
        have hR : R = (U, y) := by rw [hst, hy]
        subst hR
        obtain ⟨b0, o0, hA⟩ := row_addr hC.out (by have := HX.out; omega)
        subst hA
        obtain ⟨D, hD⟩ : ∃ D : Option Addr, D = (if c_ = m + 1 then some ⟨b0, o0, none⟩ else some ⟨b0, o0 + (m + 1), none⟩) := ⟨_, rfl⟩
        have q5 : (0 : Int) ≤ (m : Int) + 1 := by omega
        have q6 : (m : Int) + 1 ≤ (L.length : Int) := by have := HX.out; omega
        have JD := Lib.hid (show ∀ W, Kd.C Kd.string W (some ⟨b0, o0, none⟩) L.length L → Calls Tryz.prog 101 #[.slice D (L.length - (m + 1)) (c_ - (m + 1))] W fun e W' => e = .returned (.string y) ∧ Below W.heap.size W W' from fun W h => by
          have ht : (L.drop (m + 1)).length = L.length - (m + 1) := List.length_drop
          have := join_calls (w := W) (A := D) (c := c_ - (m + 1)) (l := L.drop (m + 1)) (by rw [hD]; have := Kd.C_drop (m := m + 1) h HX.out HCC.out; rwa [show (some (⟨b0, o0, none⟩ : Addr)).map (·.add ((m + 1) * Kd.string.sz)) = some ⟨b0, o0 + (m + 1), none⟩ from by rw [Option.map_some, show (m + 1) * Kd.string.sz = m + 1 from Nat.mul_one _, add_none]] at this) (by rw [ht]; have := HCC.out; omega) (by rw [ht]; have := HLN.out; omega) (by have := (JT.out (m + 1)).2; omega)
          rwa [ht, ← hy] at this)
        have HDD := Lib.hid hD
        clear hD hst hxs hx hy hr hf hn HST
        go_wp2_with (first
          | (go_at_call 101; refine (JC.out _ hC.out).mono ?_; rintro e w3 ⟨rfl, hb⟩; have HB3 := Lib.hid (below_step hW.out hb); have K3 := Lib.hid (blk_on hK.out hb); have C3 := Lib.hid (Kd.C_below hC.out hb); clear hb hW hK hC JC)
          | (go_at_call 13; refine (PG.out _ (HN.out.on HB3.out)).mono ?_; rintro e w4 ⟨U_1, U_c1, U_4, U_c4, U_5, U_c5, U_6, U_c6, rfl, hR, hb⟩; have HB4 := Lib.hid (below_step HB3.out hb); have K4 := Lib.hid (blk_on K3.out hb); have C4 := Lib.hid (Kd.C_below C3.out hb); have R4 := Lib.hid (hR.lower HB3.out.size); obtain ⟨p0, p1, p2, p3, p4, p5, p6, p7⟩ := cells8p (new_blk w4 (.cells (tagCells U U_1 U_c1 U_4 U_c4 U_5 U_c5 U_6 U_c6) 29)); clear hb hR HB3 K3 C3 PG))
        obtain ⟨W6, hW6⟩ : ∃ W, W = w4.alloc (.cells (tagCells U U_1 U_c1 U_4 U_c4 U_5 U_c5 U_6 U_c6) 29) := ⟨_, rfl⟩
        rw [← hW6]
        have HB6 := Lib.hid (show Below w.heap.size w W6 by rw [hW6]; exact below_alloc HB4.out _)
        have K6 := Lib.hid (show W6.heap[w.heap.size]? = some (.cells #[.string ⟨#[]⟩, .slice none 0 0, .string ⟨#[]⟩, .string ⟨#[]⟩, .slice none 0 0, .slice none 0 0, .slice none 0 0, .string ⟨#[]⟩] 29 (0, 0)) by rw [hW6]; exact blk_alloc1 K4.out _)
        have C6 := Lib.hid (show Kd.C Kd.string W6 (some ⟨b0, o0, none⟩) L.length L by rw [hW6]; exact Kd.C_below C4.out (below_alloc (Below.refl _ _) _))
        have R6 := Lib.hid (show OwnT W6 w.heap.size (.slice U_1 U.ext.length U_c1) (.slice U_4 U.vars.length U_c4) (.slice U_5 U.exts.length U_c5) (.slice U_6 U.priv.length U_c6) U.ext U.vars U.exts U.priv by rw [hW6]; exact R4.out.below (below_alloc (Below.refl _ _) _))
        have N6 := Lib.hid (show W6.heap[w4.heap.size]? = some (.cells (tagCells U U_1 U_c1 U_4 U_c4 U_5 U_c5 U_6 U_c6) 29 (0, 0)) by rw [hW6]; exact new_blk w4 _)
        have hne : w4.heap.size ≠ w.heap.size := by have := blk_lt K4.out; omega
        clear hW6 HB4 K4 C4 R4 p0 p1 p2 p3 p4 p5 p6 p7
        have EQ := Lib.hid (fun (w' : World) (h : Below W6.heap.size W6 w') => (⟨pw_cell_below h ((blk_cell N6.out 0).trans rfl), pw_cell_below h ((blk_cell N6.out 1).trans rfl), pw_cell_below h ((blk_cell N6.out 2).trans rfl), pw_cell_below h ((blk_cell N6.out 3).trans rfl), pw_cell_below h ((blk_cell N6.out 4).trans rfl), pw_cell_below h ((blk_cell N6.out 5).trans rfl), pw_cell_below h ((blk_cell N6.out 6).trans rfl), pw_cell_below h ((blk_cell N6.out 7).trans rfl)⟩ : w'.cell? ⟨w4.heap.size, 0, none⟩ = some (.string U.lang) ∧ w'.cell? ⟨w4.heap.size, 1, none⟩ = some (.slice U_1 U.ext.length U_c1) ∧ w'.cell? ⟨w4.heap.size, 2, none⟩ = some (.string U.script) ∧ w'.cell? ⟨w4.heap.size, 3, none⟩ = some (.string U.region) ∧ w'.cell? ⟨w4.heap.size, 4, none⟩ = some (.slice U_4 U.vars.length U_c4) ∧ w'.cell? ⟨w4.heap.size, 5, none⟩ = some (.slice U_5 U.exts.length U_c5) ∧ w'.cell? ⟨w4.heap.size, 6, none⟩ = some (.slice U_6 U.priv.length U_c6) ∧ w'.cell? ⟨w4.heap.size, 7, none⟩ = some (.string U.grand)))
        have Y0 := Lib.hid (Below.refl W6.heap.size W6)
        refine start_ (n := 7) (S := fun w' => w'.cell? ⟨w4.heap.size, 0, none⟩ = some (.string U.lang) ∧ w'.cell? ⟨w4.heap.size, 1, none⟩ = some (.slice U_1 U.ext.length U_c1) ∧ w'.cell? ⟨w4.heap.size, 2, none⟩ = some (.string U.script) ∧ w'.cell? ⟨w4.heap.size, 3, none⟩ = some (.string U.region) ∧ w'.cell? ⟨w4.heap.size, 4, none⟩ = some (.slice U_4 U.vars.length U_c4) ∧ w'.cell? ⟨w4.heap.size, 5, none⟩ = some (.slice U_5 U.exts.length U_c5) ∧ w'.cell? ⟨w4.heap.size, 6, none⟩ = some (.slice U_6 U.priv.length U_c6) ∧ w'.cell? ⟨w4.heap.size, 7, none⟩ = some (.string U.grand)) (ds := []) #[false, false, false, false, false, false, false] (by kernel_rfl) rfl rfl (EQ.out _ (below_drew Y0.out)) (fun hHeld => ?_); refine with_tabW pf7_tab pf7_bits (fun HT_ HW_ => ?_)
        refine tk_ (i := 0) (N := some 26) HT_ HW_ (bl_ 7 1) hHeld ?_ (hy := by rintro w' ⟨s0, s1, s2, s3, s4, s5, s6, s7⟩; go_simp; with_reducible rfl)
        refine pu_ (i := 1) (N := some 27) HT_ (bl_ 7 3) ?_
        refine pu_ (i := 2) (N := some 28) HT_ (bl_ 7 7) ?_
        refine pu_ (i := 3) (N := some 29) HT_ (bl_ 7 15) ?_
        rw [← HDD.out]
        refine on_ (i := 4) (N := some 30) HT_ (bl_ 7 31) rfl rfl (fun K hK => ?_)
        refine gs_ Tryz.func101 #[.slice D (L.length - (m + 1)) (c_ - (m + 1))] ?_
        refine (JD.out _ (Kd.C_below C6.out (below_drew Y0.out))).mono ?_
        rintro e w7 ⟨rfl, hb⟩
        have Y1 := Lib.hid (below_step (below_drew Y0.out) hb)
        clear hb
        refine ⟨_, rfl, ?_⟩
        refine hK.out _ _ (EQ.out _ Y1.out) (fun hHeld => ?_)
        clear hK K
        refine nm_ (some 30) ?_
        have K7 := Lib.hid (blk_on K6.out Y1.out)
        obtain ⟨k0, k1, k2, k3, k4, k5, k6, k7⟩ := cells8p K7.out
        have f0 := blk_frozen K7.out 0
        have f1 := blk_frozen K7.out 1
        have f2 := blk_frozen K7.out 2
        have f3 := blk_frozen K7.out 3
        have f4 := blk_frozen K7.out 4
        have f5 := blk_frozen K7.out 5
        have f6 := blk_frozen K7.out 6
        have f7 := blk_frozen K7.out 7
        refine on_ (i := 5) (N := none) HT_ (bl_ 7 63) rfl rfl (fun K hK => ?_)
        refine skip_ (w1 := ?_) (by rfl) rfl ?_ ?_
        rotate_left
        · go_simp
          rfl
        refine hK.out _ _ (cells8k (blk_on N6.out Y1.out) hne _ _ _ _ _ _ _ _) (fun hHeld => ?_)
        clear hK K
        refine pu_ (i := 6) (N := some 3) HT_ (bl_ 7 127) ?_
        refine done_ (done_of HT_.out (by kernel_rfl)) ?_
        go_wp2
        refine bodyPost_ret (results_ct rfl _ _ w.heap.size 29 #[.string U.lang, .slice U_1 U.ext.length U_c1, .string U.script, .string U.region, .slice U_4 U.vars.length U_c4, .slice U_5 U.exts.length U_c5, .slice U_6 U.priv.length U_c6, .string U.grand] (0, 0) _ rfl (put8 K7.out _ _ _ _ _ _ _ _) Tryz.underlying29 rfl (by kernel_rfl)) rfl ?_
        exact ⟨U_1, U_c1, U_4, U_c4, U_5, U_c5, U_6, U_c6, rfl, ((R6.out.below Y1.out).set8 K7.out _ _ _ _ _ _ _ _).rows, below8 (below_step HB6.out Y1.out) (Nat.le_refl _) _ _ _ _ _ _ _ _⟩
      | bad kd pl what =>
        rw [hr] at hst
        have PB := Lib.hid (fun (W : World) (h : NamesIn W) => Parse_bad hr hxs W h)
        have HM := Lib.hid hst.symm
        clear hst hxs hx hr hf hn HST
        go_wp2_with (first
          | (go_at_call 101; refine (JC.out _ hC.out).mono ?_; rintro e w3 ⟨rfl, hb⟩; have HB3 := Lib.hid (below_step hW.out hb); have K3 := Lib.hid (blk_on hK.out hb); have C3 := Lib.hid (Kd.C_below hC.out hb); clear hb hW hK hC JC)
          | (go_at_call 13; refine (PB.out _ (HN.out.on HB3.out)).mono ?_; rintro e w4 ⟨U_1, U_c1, U_4, U_c4, U_5, U_c5, U_6, U_c6, D, rfl, hF, hR, hb⟩; have HB4 := Lib.hid (below_step HB3.out hb); have K4 := Lib.hid (blk_on K3.out hb); have C4 := Lib.hid (Kd.C_below C3.out hb); clear hF hR hb HB3 K3 C3 PB))
        have w2 : wrap64 (m : Int) = (m : Int) := by have := HLN.out; have := HX.out; unfold wrap64; omega
        rw [w2]
        refine ⟨⟨m, rfl, Lib.hid (by have := HX.out; omega), HM, Lib.hid (below_alloc HB4.out _), Lib.hid (Kd.C_below C4.out (below_alloc (Below.refl _ _) _)), Lib.hid (blk_alloc1 K4.out _)⟩, ?_⟩
        show (m : Int).toNat < ((m + 1 : Nat) : Int).toNat
        omega
end Go.Proofs.YtejnfbfikadpdaaGreatDoor.P
