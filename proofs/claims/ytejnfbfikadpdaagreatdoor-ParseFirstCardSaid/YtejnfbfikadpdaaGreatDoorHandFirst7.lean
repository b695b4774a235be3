/- The document's First, walked. -/
import Derived.Test.YtejnfbfikadpdaaGreatDoorProg
import Derived.Test.YtejnfbfikadpdaaGreatDoorHand1
import Derived.Lib.Hide
import Derived.RangeFuncWrites
import Derived.WalkLawsBesides
import Derived.WalkMore
import Derived.RangeFuncNested
import Derived.RangeFuncBound
import Derived.RangeFuncCalls
import Derived.RangeFuncLeaves
import Derived.RangeFuncBox
import Derived.Shelf.Abstract
import Derived.Shelf.RegionOpen
import Derived.WalkKit
import Derived.OwnWalkIn
import Derived.TacticsInMore
import Derived.LoopNIn
import Derived.LoopIn
import Derived.Maps.AppendAt
import Derived.Test.YtejnfbfikadpdaaGreatDoorWWords
import Derived.RangeFuncFrom
import Derived.RangeFuncOwn
import Derived.Test.YtejnfbfikadpdaaGreatDoorHandLaw
import Derived.Test.YtejnfbfikadpdaaGreatDoorHandRec
import Derived.Test.YtejnfbfikadpdaaGreatDoorHandDoc
import Derived.Test.YtejnfbfikadpdaaGreatDoorHandErr
import Derived.Test.YtejnfbfikadpdaaGreatDoorSq
import Derived.Test.YtejnfbfikadpdaaGreatDoorHandFirst
namespace Go.Proofs.YtejnfbfikadpdaaGreatDoor.P
open Go.RowKit Go.Shelf Go.Proofs.YtejnfbfikadpdaaGreatDoorW.PrintWords Go.Proofs.YtejnfbfikadpdaaGreatDoor
set_option linter.unusedVariables false
attribute [local go_sem] Oper.semAt_some
def Marks (n₀ : Nat) (W : World) : List Deferred → Prop
  | [] => True
  | d :: ds => (∃ r, d = { target := .collected r, args := #[] } ∧ n₀ ≤ r ∧ W.heap[r]? = some (.deferred (some [])) ∧ ∀ d' ∈ ds, ∃ q, d' = { target := .collected q, args := #[] } ∧ q < r) ∧ Marks n₀ W ds
theorem Marks.same {n₀ : Nat} {W W' : World} : ∀ {ds : List Deferred}, Marks n₀ W ds → (∀ r, n₀ ≤ r → W.heap[r]? = some (.deferred (some [])) → ({ target := .collected r, args := #[] } : Deferred) ∈ ds → W'.heap[r]? = some (.deferred (some []))) → Marks n₀ W' ds
  | [], _, _ => trivial
  | d :: ds, h, hk => by
    obtain ⟨⟨r, rfl, h1, h2, h3⟩, h4⟩ := h
    exact ⟨⟨r, rfl, h1, hk r h1 h2 (by simp), h3⟩, h4.same fun q hq1 hq2 hq3 => hk q hq1 hq2 (List.mem_cons_of_mem _ hq3)⟩
theorem Marks.below {n₀ : Nat} {W W' : World} {ds : List Deferred} (h : Marks n₀ W ds) (hb : Below W.heap.size W W') : Marks n₀ W' ds :=
  h.same fun r _ h2 _ => (hb.block r (Array.getElem?_eq_some_iff.1 h2).1).trans h2
theorem Marks.keeps {n₀ : Nat} {W W' : World} {ds : List Deferred} (h : Marks n₀ W ds) (hb : KeepsOthers W W') : Marks n₀ W' ds :=
  h.same fun r _ h2 _ => hb.same r _ h2 rfl
theorem Marks.cons {n₀ : Nat} {W : World} {ds : List Deferred} (h : Marks n₀ W ds) {D : Nat} (hD : n₀ ≤ D) (hw : W.heap[D]? = some (.deferred (some []))) (hlt : ∀ d' ∈ ds, ∃ q, d' = { target := .collected q, args := #[] } ∧ q < D) : Marks n₀ W ({ target := .collected D, args := #[] } :: ds) :=
  ⟨⟨D, rfl, hD, hw, hlt⟩, h⟩
theorem Marks.lt {n₀ : Nat} {W : World} : ∀ {ds : List Deferred}, Marks n₀ W ds → ∀ d' ∈ ds, ∃ q, d' = ({ target := .collected q, args := #[] } : Deferred) ∧ q < W.heap.size
  | [], _, d', hd => by cases hd
  | d :: ds, h, d', hd => by
    obtain ⟨⟨r, rfl, h1, h2, h3⟩, h4⟩ := h
    rcases List.mem_cons.1 hd with rfl | hd
    · exact ⟨r, rfl, (Array.getElem?_eq_some_iff.1 h2).1⟩
    · exact h4.lt d' hd
theorem ReadsOf.set {α : Type} {enc : α → Value} {d : α} {W : World} {A : Option Addr} {n : Nat} {xs : List α} (h : ReadsOf enc d W A n xs) {B : Nat} {v : Value} (hA : ∀ ad, A = some ad → 0 < n → ad.block ≠ B) : ReadsOf enc d (W.setCell ⟨B, 0, none⟩ v) A n xs :=
  ⟨h.1, h.2.1, fun hn => by
    obtain ⟨ad, e, hc⟩ := h.2.2 hn
    refine ⟨ad, e, fun q hq => ?_⟩
    rw [World.cell?_setCell_other _ _ _ _ (fun x => hA ad e hn (by have := congrArg Addr.block x; simp only [add_block] at this; exact this.symm))]
    exact hc q hq⟩
end Go.Proofs.YtejnfbfikadpdaaGreatDoor.P
namespace Go.Proofs.YtejnfbfikadpdaaGreatDoor.P
open Go.RowKit Go.Shelf Go.Proofs.YtejnfbfikadpdaaGreatDoorW.PrintWords Go.Proofs.YtejnfbfikadpdaaGreatDoorW.PrintLast Go.Proofs.YtejnfbfikadpdaaGreatDoorW.PrintMore Go.Proofs.YtejnfbfikadpdaaGreatDoor.Iso
set_option linter.unusedVariables false
set_option linter.unusedSimpArgs false
attribute [local go_sem] Oper.semAt_some
theorem finR_kind {E : Int} {T : TG} {ps : List PieceR} {k a : Int} {x : ByteArray} (h : finR E T ps = .bad k a x) : k = 10 ∨ k = 11 := by
  unfold finR at h
  split at h
  · cases h
  · injection h with h _; exact .inl h.symm
theorem tailR_kind {E : Int} {T : TG} {ps : List PieceR} {k a : Int} {x : ByteArray} (h : tailR E T ps = .bad k a x) : k = 10 ∨ k = 11 := by
  unfold tailR at h
  split at h
  · split at h
    · injection h with h _; exact .inl h.symm
    · exact finR_kind h
  · exact finR_kind h
theorem bad_kind {s : ByteArray} {k a : Int} {x : ByteArray} (h : parseR s = .bad k a x) : k = 10 ∨ k = 11 := by
  unfold parseR at h
  split at h
  · cases h
  unfold allR at h
  split at h
  · exact tailR_kind h
  split at h
  · unfold midR at h
    dsimp only at h
    split at h
    · injection h with h _; exact .inr h.symm
    split at h
    · injection h with h _; exact .inr h.symm
    split at h
    · injection h with h _; exact .inl h.symm
    · exact tailR_kind h
  · injection h with h _; exact .inl h.symm
end Go.Proofs.YtejnfbfikadpdaaGreatDoor.P
namespace Go.Proofs.YtejnfbfikadpdaaGreatDoor.P
open Go.RowKit Go.Shelf Go.Proofs.YtejnfbfikadpdaaGreatDoorW.PrintWords Go.Proofs.YtejnfbfikadpdaaGreatDoorW.PrintLast Go.Proofs.YtejnfbfikadpdaaGreatDoorW.PrintMore Go.Proofs.YtejnfbfikadpdaaGreatDoor.Iso
set_option linter.unusedVariables false
set_option linter.unusedSimpArgs false
attribute [local go_sem] Oper.semAt_some
attribute [local go_sem] max2_int min2_int max_two min_two
theorem put9 {w : World} {g : Nat} {t : TypeId} {z0 z1 z2 z3 z4 z5 z6 z7 z8 : Value} (h : w.heap[g]? = some (.cells #[z0, z1, z2, z3, z4, z5, z6, z7, z8] t (0, 0))) (u0 u1 u2 u3 u4 u5 u6 u7 u8 : Value) :
    (((((((((w.setCell ⟨g, 0, none⟩ u0).setCell ⟨g, 1, none⟩ u1).setCell ⟨g, 2, none⟩ u2).setCell ⟨g, 3, none⟩ u3).setCell ⟨g, 4, none⟩ u4).setCell ⟨g, 5, none⟩ u5).setCell ⟨g, 6, none⟩ u6).setCell ⟨g, 7, none⟩ u7).setCell ⟨g, 8, none⟩ u8).heap[g]? = some (.cells #[u0, u1, u2, u3, u4, u5, u6, u7, u8] t (0, 0)) := by
  have b0 := blk_put (cs' := #[u0, z1, z2, z3, z4, z5, z6, z7, z8]) h 0 u0 rfl
  have b1 := blk_put (cs' := #[u0, u1, z2, z3, z4, z5, z6, z7, z8]) b0 1 u1 rfl
  have b2 := blk_put (cs' := #[u0, u1, u2, z3, z4, z5, z6, z7, z8]) b1 2 u2 rfl
  have b3 := blk_put (cs' := #[u0, u1, u2, u3, z4, z5, z6, z7, z8]) b2 3 u3 rfl
  have b4 := blk_put (cs' := #[u0, u1, u2, u3, u4, z5, z6, z7, z8]) b3 4 u4 rfl
  have b5 := blk_put (cs' := #[u0, u1, u2, u3, u4, u5, z6, z7, z8]) b4 5 u5 rfl
  have b6 := blk_put (cs' := #[u0, u1, u2, u3, u4, u5, u6, z7, z8]) b5 6 u6 rfl
  have b7 := blk_put (cs' := #[u0, u1, u2, u3, u4, u5, u6, u7, z8]) b6 7 u7 rfl
  have b8 := blk_put (cs' := #[u0, u1, u2, u3, u4, u5, u6, u7, u8]) b7 8 u8 rfl
  exact b8
theorem below9 {w0 w : World} {n g : Nat} (h : Below n w0 w) (hg : n ≤ g) (u0 u1 u2 u3 u4 u5 u6 u7 u8 : Value) : Below n w0 (((((((((w.setCell ⟨g, 0, none⟩ u0).setCell ⟨g, 1, none⟩ u1).setCell ⟨g, 2, none⟩ u2).setCell ⟨g, 3, none⟩ u3).setCell ⟨g, 4, none⟩ u4).setCell ⟨g, 5, none⟩ u5).setCell ⟨g, 6, none⟩ u6).setCell ⟨g, 7, none⟩ u7).setCell ⟨g, 8, none⟩ u8) :=
  (((((((((h.setCell (p := ⟨g, 0, none⟩) hg u0).setCell (p := ⟨g, 1, none⟩) hg u1).setCell (p := ⟨g, 2, none⟩) hg u2).setCell (p := ⟨g, 3, none⟩) hg u3).setCell (p := ⟨g, 4, none⟩) hg u4).setCell (p := ⟨g, 5, none⟩) hg u5).setCell (p := ⟨g, 6, none⟩) hg u6).setCell (p := ⟨g, 7, none⟩) hg u7).setCell (p := ⟨g, 8, none⟩) hg u8)
theorem own9 {w : World} {g : Nat} {v1 v4 v5 v6 : Value} {l1 l4 : List ByteArray} {l5 : List S47} {l6 : List ByteArray} {z0 z1 z2 z3 z4 z5 z6 z7 z8 : Value} (o : OwnT w 0 v1 v4 v5 v6 l1 l4 l5 l6) (h : w.heap[g]? = some (.cells #[z0, z1, z2, z3, z4, z5, z6, z7, z8] 103 (0, 0))) (u0 u1 u2 u3 u4 u5 u6 u7 u8 : Value) : OwnT (((((((((w.setCell ⟨g, 0, none⟩ u0).setCell ⟨g, 1, none⟩ u1).setCell ⟨g, 2, none⟩ u2).setCell ⟨g, 3, none⟩ u3).setCell ⟨g, 4, none⟩ u4).setCell ⟨g, 5, none⟩ u5).setCell ⟨g, 6, none⟩ u6).setCell ⟨g, 7, none⟩ u7).setCell ⟨g, 8, none⟩ u8) 0 v1 v4 v5 v6 l1 l4 l5 l6 := by
  have o0 := ownT_setQ o h (by decide) (by decide) 0 u0
  have b0 := blk_put (cs' := #[u0, z1, z2, z3, z4, z5, z6, z7, z8]) h 0 u0 rfl
  have o1 := ownT_setQ o0 b0 (by decide) (by decide) 1 u1
  have b1 := blk_put (cs' := #[u0, u1, z2, z3, z4, z5, z6, z7, z8]) b0 1 u1 rfl
  have o2 := ownT_setQ o1 b1 (by decide) (by decide) 2 u2
  have b2 := blk_put (cs' := #[u0, u1, u2, z3, z4, z5, z6, z7, z8]) b1 2 u2 rfl
  have o3 := ownT_setQ o2 b2 (by decide) (by decide) 3 u3
  have b3 := blk_put (cs' := #[u0, u1, u2, u3, z4, z5, z6, z7, z8]) b2 3 u3 rfl
  have o4 := ownT_setQ o3 b3 (by decide) (by decide) 4 u4
  have b4 := blk_put (cs' := #[u0, u1, u2, u3, u4, z5, z6, z7, z8]) b3 4 u4 rfl
  have o5 := ownT_setQ o4 b4 (by decide) (by decide) 5 u5
  have b5 := blk_put (cs' := #[u0, u1, u2, u3, u4, u5, z6, z7, z8]) b4 5 u5 rfl
  have o6 := ownT_setQ o5 b5 (by decide) (by decide) 6 u6
  have b6 := blk_put (cs' := #[u0, u1, u2, u3, u4, u5, u6, z7, z8]) b5 6 u6 rfl
  have o7 := ownT_setQ o6 b6 (by decide) (by decide) 7 u7
  have b7 := blk_put (cs' := #[u0, u1, u2, u3, u4, u5, u6, u7, z8]) b6 7 u7 rfl
  have o8 := ownT_setQ o7 b7 (by decide) (by decide) 8 u8
  have b8 := blk_put (cs' := #[u0, u1, u2, u3, u4, u5, u6, u7, u8]) b7 8 u8 rfl
  exact o8
def f77_T : Bool × List (List Nat × List Nat) := (true, [([], []), ([0], [0]), ([], []), ([], []), ([3], [3]), ([], []), ([5], [5]), ([4, 6], [4, 6]), ([2, 7], [2, 7]), ([1, 8], [1, 8]), ([9, 0, 1, 2, 3, 4, 5, 6, 7, 8, 9], [9])])
def f77_B : List Nat := [0, 1, 0, 0, 8, 0, 32, 120, 252, 511, 1023]
theorem f77_tab : rtab .any (opsOf Tryz.f64 7) = f77_T := by kernel_rfl
theorem f77_bits : waitsOk f77_T.2 f77_B = true := by kernel_rfl
set_option maxRecDepth 100000 in
set_option maxHeartbeats 16000000 in
theorem First07_calls (s : ByteArray) (hs : s.size ≤ 900000) (w : World) :
    Calls Tryz.prog 64 #[.string s] w fun e W' => ∃ A1 c1 A4 c4 A5 c5 A6 c6, e = .returned (.agg #[.string (firstB s s.size).1.lang, .slice A1 (firstB s s.size).1.ext.length c1, .string (firstB s s.size).1.script, .string (firstB s s.size).1.region, .slice A4 (firstB s s.size).1.vars.length c4, .slice A5 (firstB s s.size).1.exts.length c5, .slice A6 (firstB s s.size).1.priv.length c6, .string (firstB s s.size).1.grand, .string (firstB s s.size).2]) ∧ RowsC W' (firstB s s.size).1 A1 c1 A4 c4 A5 c5 A6 c6 ∧ Below w.heap.size w W' := by
  obtain ⟨R, hR⟩ : ∃ R, (firstB s s.size) = R := ⟨_, rfl⟩
  rw [hR]
  have HS := Lib.hid hs
  have HR0 := Lib.hid hR
  have DC := Lib.hid (fun (x : ByteArray) (hx : x.size ≤ 900000) (W : World) => doc_calls x hx W)
  have HB0 := Lib.hid (below_alloc (Below.refl w.heap.size w) (.cells #[.string ⟨#[]⟩, .slice none 0 0, .string ⟨#[]⟩, .string ⟨#[]⟩, .slice none 0 0, .slice none 0 0, .slice none 0 0, .string ⟨#[]⟩, .string ⟨#[]⟩] 103))
  have K0 := Lib.hid (new_blk w (.cells #[.string ⟨#[]⟩, .slice none 0 0, .string ⟨#[]⟩, .string ⟨#[]⟩, .slice none 0 0, .slice none 0 0, .slice none 0 0, .string ⟨#[]⟩, .string ⟨#[]⟩] 103))
  clear hs hR
  go_enter Tryz.func64, Tryz.ntmps64
  go_wp2
  go_loopw [3] (fun v3 wr => ∃ n : Nat, v3 = .int .i64 (n : Int) ∧ Hid (n ≤ s.size) ∧ Hid (firstB s n = R) ∧ Hid (Below w.heap.size w wr) ∧ Hid (wr.heap[w.heap.size]? = some (.cells #[.string ⟨#[]⟩, .slice none 0 0, .string ⟨#[]⟩, .string ⟨#[]⟩, .slice none 0 0, .slice none 0 0, .slice none 0 0, .string ⟨#[]⟩, .string ⟨#[]⟩] 103 (0, 0)))) (fun v3 _ => (intOf v3).toNat)
  case atStart => exact ⟨s.size, rfl, Lib.hid (Nat.le_refl _), HR0, HB0, K0⟩
  case round =>
    clear HB0 K0 HR0
    obtain ⟨n, rfl, hn, hf, hW, hK⟩ := hrel
    cases n with
    | zero =>
      have q0 : decide (((0 : Nat) : Int) > 0) = false := by decide
      have hr : R = (T0, s) := hf.out.symm
      subst hr
      have k0 := (blk_cell hK.out 0).trans rfl
      have f0 := blk_frozen hK.out 0
      have k1 := (blk_cell hK.out 1).trans rfl
      have f1 := blk_frozen hK.out 1
      have k2 := (blk_cell hK.out 2).trans rfl
      have f2 := blk_frozen hK.out 2
      have k3 := (blk_cell hK.out 3).trans rfl
      have f3 := blk_frozen hK.out 3
      have k4 := (blk_cell hK.out 4).trans rfl
      have f4 := blk_frozen hK.out 4
      have k5 := (blk_cell hK.out 5).trans rfl
      have f5 := blk_frozen hK.out 5
      have k6 := (blk_cell hK.out 6).trans rfl
      have f6 := blk_frozen hK.out 6
      have k7 := (blk_cell hK.out 7).trans rfl
      have f7 := blk_frozen hK.out 7
      have k8 := (blk_cell hK.out 8).trans rfl
      have f8 := blk_frozen hK.out 8
      go_wp2
      refine bodyPost_ret (results_cell_row rfl _ _ w.heap.size 103 (#[.string ⟨#[]⟩, .slice none 0 0, .string ⟨#[]⟩, .string ⟨#[]⟩, .slice none 0 0, .slice none 0 0, .slice none 0 0, .string ⟨#[]⟩, .string s]) (0, 0) _ rfl (put9 hK.out _ _ _ _ _ _ _ _ _) Tryz.underlying103 rfl (by kernel_rfl)) rfl ?_
      exact ⟨none, 0, none, 0, none, 0, none, 0, rfl, rows_none _, below9 hW.out (Nat.le_refl _) _ _ _ _ _ _ _ _ _⟩
    | succ m =>
      have q0 : decide (((m + 1 : Nat) : Int) > 0) = true := decide_eq_true (by omega)
      have w1 : wrap64 (m : Int) = (m : Int) := by have := HS.out; have := hn.out; unfold wrap64; omega
      have w3 : wrap64 ((m : Int) + 1 + 1) = (m : Int) + 1 + 1 := by have := HS.out; have := hn.out; unfold wrap64; omega
      have q2 : (0 : Int) ≤ (m : Int) + 1 := by omega
      have q3 : (m : Int) + 1 ≤ (s.size : Int) := by have := hn.out; omega
      by_cases hlt : m + 1 < s.size
      · have q4 : decide ((m : Int) + 1 < (s.size : Int)) = true := decide_eq_true (by omega)
        have q5 : (m : Int) + 1 < (s.size : Int) := by omega
        obtain ⟨x, hx⟩ : ∃ c : UInt8, (bl s)[m + 1]? = some c := ⟨_, List.getElem?_eq_getElem (by rw [bl_len]; exact hlt)⟩
        have zx : ∀ h : m + 1 < s.size, (s[m + 1]'h) = x := fun h => by rw [List.getElem?_eq_getElem (by rw [bl_len]; exact h)] at hx; exact Option.some.inj hx
        by_cases hd : x = 45
        · subst hd
          have q6 : (((45 : UInt8).toNat : Int) == 45) = true := rfl
          have q7 : ((s.size : Int) < (m : Int) + 1 + 1) = False := eq_false (by omega)
          have q8 : (0 : Int) ≤ (m : Int) + 1 + 1 := by omega
          have q9 : (m : Int) + 1 + 1 ≤ (s.size : Int) := by omega
          have q10 : ((m : Int) + 1 + 1).toNat = m + 2 := by omega
          have hB : firstB s (m + 1) = match parseR (s.extract 0 (m + 1)) with | .good U => (U, s.extract (m + 2) s.size) | .bad _ _ _ => firstB s m := by
            have e1 : mk ((bl s).take (m + 1)) = s.extract 0 (m + 1) := bl_inj (by rw [bl_mk, bl_extract]; rfl)
            have e2 : mk ((bl s).drop (min (m + 2) s.size)) = s.extract (m + 2) s.size := bl_inj (by rw [bl_mk, bl_extract, Nat.min_eq_left (by omega), List.take_of_length_le (by rw [List.length_drop, bl_len]; omega)])
            show (if m + 1 < s.size ∧ (bl s)[m + 1]? ≠ some 45 then firstB s m else _) = _
            rw [if_neg (by rintro ⟨h1, h2⟩; exact h2 hx), e1, e2]
            cases parseR (s.extract 0 (m + 1)) <;> rfl
          rw [hf.out] at hB
          have hxs : (s.extract 0 (m + 1)).size ≤ 900000 := by rw [← bl_len, bl_extract, List.length_take]; have := HS.out; have := hn.out; omega
          have DX := Lib.hid (DC.out (s.extract 0 (m + 1)) hxs)
          have HN1 := Lib.hid hn.out
          cases hr : parseR (s.extract 0 (m + 1)) with
          | good U =>
            rw [hr] at hB DX
            have hR : R = (U, s.extract (m + 2) s.size) := hB
            subst hR
            have e0 : ((0 : Int) == 0) = true := rfl
            clear hB hr hxs hn hf DC
            go_wp2_with (go_at_call 60; refine (DX.out _).mono ?_; rintro e w3 ⟨hb, U_1, U_c1, U_4, U_c4, U_5, U_c5, U_6, U_c6, rfl, hR, hO⟩; have HB3 := Lib.hid (below_step hW.out hb); have K3 := Lib.hid (blk_on hK.out hb); have O3 := Lib.hid hO; clear hO hR; obtain ⟨⟨p0, p1, p2, p3, p4, p5, p6, p7, p8, p9, p10⟩, -⟩ := cells11p (new_blk w3 (.cells #[.string U.lang, .slice U_1 U.ext.length U_c1, .string U.script, .string U.region, .slice U_4 U.vars.length U_c4, .slice U_5 U.exts.length U_c5, .slice U_6 U.priv.length U_c6, .string U.grand, .int .i64 0, .int .i64 0, .string ⟨#[]⟩] 97)); clear hb hW hK DX)
            obtain ⟨W6, hW6⟩ : ∃ W, W = w3.alloc (.cells #[.string U.lang, .slice U_1 U.ext.length U_c1, .string U.script, .string U.region, .slice U_4 U.vars.length U_c4, .slice U_5 U.exts.length U_c5, .slice U_6 U.priv.length U_c6, .string U.grand, .int .i64 0, .int .i64 0, .string ⟨#[]⟩] 97) := ⟨_, rfl⟩
            rw [← hW6]
            have HB6 := Lib.hid (show Below w.heap.size w W6 by rw [hW6]; exact below_alloc HB3.out _)
            have K6 := Lib.hid (show W6.heap[w.heap.size]? = some (.cells #[.string ⟨#[]⟩, .slice none 0 0, .string ⟨#[]⟩, .string ⟨#[]⟩, .slice none 0 0, .slice none 0 0, .slice none 0 0, .string ⟨#[]⟩, .string ⟨#[]⟩] 103 (0, 0)) by rw [hW6]; exact blk_alloc1 K3.out _)
            have O6 := Lib.hid (show OwnT W6 0 (.slice U_1 U.ext.length U_c1) (.slice U_4 U.vars.length U_c4) (.slice U_5 U.exts.length U_c5) (.slice U_6 U.priv.length U_c6) U.ext U.vars U.exts U.priv by rw [hW6]; exact O3.out.below (below_alloc (Below.refl _ _) _))
            have N6 := Lib.hid (show W6.heap[w3.heap.size]? = some (.cells #[.string U.lang, .slice U_1 U.ext.length U_c1, .string U.script, .string U.region, .slice U_4 U.vars.length U_c4, .slice U_5 U.exts.length U_c5, .slice U_6 U.priv.length U_c6, .string U.grand, .int .i64 0, .int .i64 0, .string ⟨#[]⟩] 97 (0, 0)) by rw [hW6]; exact new_blk w3 _)
            clear hW6 HB3 K3 O3 p0 p1 p2 p3 p4 p5 p6 p7 p8 p9 p10
            have EQ := Lib.hid (fun (w' : World) (h : Below W6.heap.size W6 w') => (⟨pw_cell_below h ((blk_cell N6.out 0).trans rfl), pw_cell_below h ((blk_cell N6.out 1).trans rfl), pw_cell_below h ((blk_cell N6.out 2).trans rfl), pw_cell_below h ((blk_cell N6.out 3).trans rfl), pw_cell_below h ((blk_cell N6.out 4).trans rfl), pw_cell_below h ((blk_cell N6.out 5).trans rfl), pw_cell_below h ((blk_cell N6.out 6).trans rfl), pw_cell_below h ((blk_cell N6.out 7).trans rfl)⟩ : w'.cell? ⟨w3.heap.size, 0, none⟩ = some (.string U.lang) ∧ w'.cell? ⟨w3.heap.size, 1, none⟩ = some (.slice U_1 U.ext.length U_c1) ∧ w'.cell? ⟨w3.heap.size, 2, none⟩ = some (.string U.script) ∧ w'.cell? ⟨w3.heap.size, 3, none⟩ = some (.string U.region) ∧ w'.cell? ⟨w3.heap.size, 4, none⟩ = some (.slice U_4 U.vars.length U_c4) ∧ w'.cell? ⟨w3.heap.size, 5, none⟩ = some (.slice U_5 U.exts.length U_c5) ∧ w'.cell? ⟨w3.heap.size, 6, none⟩ = some (.slice U_6 U.priv.length U_c6) ∧ w'.cell? ⟨w3.heap.size, 7, none⟩ = some (.string U.grand)))
            refine start_ (n := 11) (S := fun w' => w'.cell? ⟨w3.heap.size, 0, none⟩ = some (.string U.lang) ∧ w'.cell? ⟨w3.heap.size, 1, none⟩ = some (.slice U_1 U.ext.length U_c1) ∧ w'.cell? ⟨w3.heap.size, 2, none⟩ = some (.string U.script) ∧ w'.cell? ⟨w3.heap.size, 3, none⟩ = some (.string U.region) ∧ w'.cell? ⟨w3.heap.size, 4, none⟩ = some (.slice U_4 U.vars.length U_c4) ∧ w'.cell? ⟨w3.heap.size, 5, none⟩ = some (.slice U_5 U.exts.length U_c5) ∧ w'.cell? ⟨w3.heap.size, 6, none⟩ = some (.slice U_6 U.priv.length U_c6) ∧ w'.cell? ⟨w3.heap.size, 7, none⟩ = some (.string U.grand)) (ds := [10]) #[false, false, false, false, false, false, false, false, false, false, false] (by kernel_rfl) rfl rfl (EQ.out _ (below_drew (Below.refl _ _))) (fun hHeld => ?_); refine with_tabW f77_tab f77_bits (fun HT_ HW_ => ?_)
            refine pu_ (i := 0) (N := some 28) HT_ (bl_ 11 1) ?_
            refine tk_ (i := 1) (N := some 29) HT_ HW_ (bl_ 11 3) hHeld ?_ (hy := by rintro w' ⟨s0, s1, s2, s3, s4, s5, s6, s7⟩; go_simp; with_reducible rfl)
            refine pu_ (i := 2) (N := some 30) HT_ (bl_ 11 7) ?_
            refine pu_ (i := 3) (N := some 31) HT_ (bl_ 11 15) ?_
            refine pu_ (i := 4) (N := some 32) HT_ (bl_ 11 31) ?_
            refine pu_ (i := 5) (N := some 33) HT_ (bl_ 11 63) ?_
            refine pu_ (i := 6) (N := some 34) HT_ (bl_ 11 127) ?_
            refine pu_ (i := 7) (N := some 35) HT_ (bl_ 11 255) ?_
            refine pu_ (i := 8) (N := some 36) HT_ (bl_ 11 511) ?_
            refine pu_ (i := 9) (N := some 37) HT_ (bl_ 11 1023) ?_
            have K7 := Lib.hid (show W6.drew.heap[w.heap.size]? = some (.cells #[.string ⟨#[]⟩, .slice none 0 0, .string ⟨#[]⟩, .string ⟨#[]⟩, .slice none 0 0, .slice none 0 0, .slice none 0 0, .string ⟨#[]⟩, .string ⟨#[]⟩] 103 (0, 0)) from K6.out)
            have O7 := Lib.hid (O6.out.below (below_drew (Below.refl _ _)))
            have HB7 := Lib.hid (below_drew HB6.out)
            clear hHeld EQ N6 K6 O6 HB6
            generalize W6.drew = W7 at *
            have k0 := (blk_cell K7.out 0).trans rfl
            have f0 := blk_frozen K7.out 0
            have k1 := (blk_cell K7.out 1).trans rfl
            have f1 := blk_frozen K7.out 1
            have k2 := (blk_cell K7.out 2).trans rfl
            have f2 := blk_frozen K7.out 2
            have k3 := (blk_cell K7.out 3).trans rfl
            have f3 := blk_frozen K7.out 3
            have k4 := (blk_cell K7.out 4).trans rfl
            have f4 := blk_frozen K7.out 4
            have k5 := (blk_cell K7.out 5).trans rfl
            have f5 := blk_frozen K7.out 5
            have k6 := (blk_cell K7.out 6).trans rfl
            have f6 := blk_frozen K7.out 6
            have k7 := (blk_cell K7.out 7).trans rfl
            have f7 := blk_frozen K7.out 7
            have k8 := (blk_cell K7.out 8).trans rfl
            have f8 := blk_frozen K7.out 8
            refine last_ (i := 10) (N := none) #[true, true, true, true, true, true, true, true, true, true, true] rfl rfl (one_of HT_.out (by kernel_rfl)) (by decide) (fun K hK => ?_)
            refine skip_ (w1 := ?_) (by rfl) rfl ?_ ?_
            rotate_left
            · go_simp
              rfl
            refine hK.out _ _ ?_
            clear hK K
            refine done_ (done_of HT_.out (by kernel_rfl)) ?_
            go_wp2
            refine bodyPost_ret (results_cell_row rfl _ _ w.heap.size 103 (#[.string U.lang, .slice U_1 U.ext.length U_c1, .string U.script, .string U.region, .slice U_4 U.vars.length U_c4, .slice U_5 U.exts.length U_c5, .slice U_6 U.priv.length U_c6, .string U.grand, .string (s.extract (m + 2) s.size)]) (0, 0) _ rfl (put9 K7.out _ _ _ _ _ _ _ _ _) Tryz.underlying103 rfl (by kernel_rfl)) rfl ?_
            exact ⟨U_1, U_c1, U_4, U_c4, U_5, U_c5, U_6, U_c6, rfl, (own9 O7.out K7.out _ _ _ _ _ _ _ _ _).rows, below9 HB7.out (Nat.le_refl _) _ _ _ _ _ _ _ _ _⟩
          | bad kd pl what =>
            rw [hr] at hB DX
            have HM := Lib.hid hB.symm
            have e0 : (kd == (0 : Int)) = false := by rcases bad_kind hr with rfl | rfl <;> decide
            clear hB hr hxs hn hf DC
            go_wp2_with (go_at_call 60; refine (DX.out _).mono ?_; rintro e w3 ⟨hb, rfl⟩; have HB3 := Lib.hid (below_step hW.out hb); have K3 := Lib.hid (blk_on hK.out hb); obtain ⟨⟨p0, p1, p2, p3, p4, p5, p6, p7, p8, p9, p10⟩, -⟩ := cells11p (new_blk w3 (.cells #[.string ⟨#[]⟩, .slice none 0 0, .string ⟨#[]⟩, .string ⟨#[]⟩, .slice none 0 0, .slice none 0 0, .slice none 0 0, .string ⟨#[]⟩, .int .i64 kd, .int .i64 pl, .string what] 97)); clear hb hW hK DX)
            rw [w1]
            refine ⟨⟨m, rfl, Lib.hid (by have := HN1.out; omega), HM, Lib.hid (below_alloc HB3.out _), Lib.hid (blk_alloc1 K3.out _)⟩, ?_⟩
            show (m : Int).toNat < ((m + 1 : Nat) : Int).toNat
            omega
        · have q6 : ((x.toNat : Int) == 45) = false := beq_eq_false_iff_ne.2 (fun e => hd (UInt8.toNat_inj.1 (by show x.toNat = 45; omega)))
          have HM := Lib.hid (show firstB s m = R from by
            rw [← hf.out]; show _ = (if m + 1 < s.size ∧ (bl s)[m + 1]? ≠ some 45 then firstB s m else _); rw [if_pos ⟨hlt, by rw [hx]; exact fun e => hd (Option.some.inj e)⟩])
          have HN1 := Lib.hid hn.out
          clear hx hn hf DC
          go_wp2
          rw [w1]
          refine ⟨⟨m, rfl, Lib.hid (by have := HN1.out; omega), HM, hW, hK⟩, ?_⟩
          show (m : Int).toNat < ((m + 1 : Nat) : Int).toNat
          omega
      · have q4 : decide ((m : Int) + 1 < (s.size : Int)) = false := decide_eq_false (by omega)
        have q7 : (s.size : Int) < (m : Int) + 1 + 1 := by omega
        have q8 : (0 : Int) ≤ (s.size : Int) := by omega
        have hB : firstB s (m + 1) = match parseR (s.extract 0 (m + 1)) with | .good U => (U, ByteArray.empty) | .bad _ _ _ => firstB s m := by
          have e1 : mk ((bl s).take (m + 1)) = s.extract 0 (m + 1) := bl_inj (by rw [bl_mk, bl_extract]; rfl)
          have e2 : mk ((bl s).drop (min (m + 2) s.size)) = ByteArray.empty := bl_inj (by rw [bl_mk, Nat.min_eq_right (by have := hn.out; omega), List.drop_eq_nil_of_le (by rw [bl_len]; exact Nat.le_refl _)]; rfl)
          show (if m + 1 < s.size ∧ (bl s)[m + 1]? ≠ some 45 then firstB s m else _) = _
          rw [if_neg (by rintro ⟨h1, h2⟩; omega), e1, e2]
          cases parseR (s.extract 0 (m + 1)) <;> rfl
        rw [hf.out] at hB
        have hxs : (s.extract 0 (m + 1)).size ≤ 900000 := by rw [← bl_len, bl_extract, List.length_take]; have := HS.out; have := hn.out; omega
        have DX := Lib.hid (DC.out (s.extract 0 (m + 1)) hxs)
        have HN1 := Lib.hid hn.out
        cases hr : parseR (s.extract 0 (m + 1)) with
        | good U =>
          rw [hr] at hB DX
          have hR : R = (U, ByteArray.empty) := hB
          subst hR
          have e0 : ((0 : Int) == 0) = true := rfl
          clear hB hr hxs hn hf DC
          go_wp2_with (go_at_call 60; refine (DX.out _).mono ?_; rintro e w3 ⟨hb, U_1, U_c1, U_4, U_c4, U_5, U_c5, U_6, U_c6, rfl, hR, hO⟩; have HB3 := Lib.hid (below_step hW.out hb); have K3 := Lib.hid (blk_on hK.out hb); have O3 := Lib.hid hO; clear hO hR; obtain ⟨⟨p0, p1, p2, p3, p4, p5, p6, p7, p8, p9, p10⟩, -⟩ := cells11p (new_blk w3 (.cells #[.string U.lang, .slice U_1 U.ext.length U_c1, .string U.script, .string U.region, .slice U_4 U.vars.length U_c4, .slice U_5 U.exts.length U_c5, .slice U_6 U.priv.length U_c6, .string U.grand, .int .i64 0, .int .i64 0, .string ⟨#[]⟩] 97)); clear hb hW hK DX)
          obtain ⟨W6, hW6⟩ : ∃ W, W = w3.alloc (.cells #[.string U.lang, .slice U_1 U.ext.length U_c1, .string U.script, .string U.region, .slice U_4 U.vars.length U_c4, .slice U_5 U.exts.length U_c5, .slice U_6 U.priv.length U_c6, .string U.grand, .int .i64 0, .int .i64 0, .string ⟨#[]⟩] 97) := ⟨_, rfl⟩
          rw [← hW6]
          have HB6 := Lib.hid (show Below w.heap.size w W6 by rw [hW6]; exact below_alloc HB3.out _)
          have K6 := Lib.hid (show W6.heap[w.heap.size]? = some (.cells #[.string ⟨#[]⟩, .slice none 0 0, .string ⟨#[]⟩, .string ⟨#[]⟩, .slice none 0 0, .slice none 0 0, .slice none 0 0, .string ⟨#[]⟩, .string ⟨#[]⟩] 103 (0, 0)) by rw [hW6]; exact blk_alloc1 K3.out _)
          have O6 := Lib.hid (show OwnT W6 0 (.slice U_1 U.ext.length U_c1) (.slice U_4 U.vars.length U_c4) (.slice U_5 U.exts.length U_c5) (.slice U_6 U.priv.length U_c6) U.ext U.vars U.exts U.priv by rw [hW6]; exact O3.out.below (below_alloc (Below.refl _ _) _))
          have N6 := Lib.hid (show W6.heap[w3.heap.size]? = some (.cells #[.string U.lang, .slice U_1 U.ext.length U_c1, .string U.script, .string U.region, .slice U_4 U.vars.length U_c4, .slice U_5 U.exts.length U_c5, .slice U_6 U.priv.length U_c6, .string U.grand, .int .i64 0, .int .i64 0, .string ⟨#[]⟩] 97 (0, 0)) by rw [hW6]; exact new_blk w3 _)
          clear hW6 HB3 K3 O3 p0 p1 p2 p3 p4 p5 p6 p7 p8 p9 p10
          have EQ := Lib.hid (fun (w' : World) (h : Below W6.heap.size W6 w') => (⟨pw_cell_below h ((blk_cell N6.out 0).trans rfl), pw_cell_below h ((blk_cell N6.out 1).trans rfl), pw_cell_below h ((blk_cell N6.out 2).trans rfl), pw_cell_below h ((blk_cell N6.out 3).trans rfl), pw_cell_below h ((blk_cell N6.out 4).trans rfl), pw_cell_below h ((blk_cell N6.out 5).trans rfl), pw_cell_below h ((blk_cell N6.out 6).trans rfl), pw_cell_below h ((blk_cell N6.out 7).trans rfl)⟩ : w'.cell? ⟨w3.heap.size, 0, none⟩ = some (.string U.lang) ∧ w'.cell? ⟨w3.heap.size, 1, none⟩ = some (.slice U_1 U.ext.length U_c1) ∧ w'.cell? ⟨w3.heap.size, 2, none⟩ = some (.string U.script) ∧ w'.cell? ⟨w3.heap.size, 3, none⟩ = some (.string U.region) ∧ w'.cell? ⟨w3.heap.size, 4, none⟩ = some (.slice U_4 U.vars.length U_c4) ∧ w'.cell? ⟨w3.heap.size, 5, none⟩ = some (.slice U_5 U.exts.length U_c5) ∧ w'.cell? ⟨w3.heap.size, 6, none⟩ = some (.slice U_6 U.priv.length U_c6) ∧ w'.cell? ⟨w3.heap.size, 7, none⟩ = some (.string U.grand)))
          refine start_ (n := 11) (S := fun w' => w'.cell? ⟨w3.heap.size, 0, none⟩ = some (.string U.lang) ∧ w'.cell? ⟨w3.heap.size, 1, none⟩ = some (.slice U_1 U.ext.length U_c1) ∧ w'.cell? ⟨w3.heap.size, 2, none⟩ = some (.string U.script) ∧ w'.cell? ⟨w3.heap.size, 3, none⟩ = some (.string U.region) ∧ w'.cell? ⟨w3.heap.size, 4, none⟩ = some (.slice U_4 U.vars.length U_c4) ∧ w'.cell? ⟨w3.heap.size, 5, none⟩ = some (.slice U_5 U.exts.length U_c5) ∧ w'.cell? ⟨w3.heap.size, 6, none⟩ = some (.slice U_6 U.priv.length U_c6) ∧ w'.cell? ⟨w3.heap.size, 7, none⟩ = some (.string U.grand)) (ds := [10]) #[false, false, false, false, false, false, false, false, false, false, false] (by kernel_rfl) rfl rfl (EQ.out _ (below_drew (Below.refl _ _))) (fun hHeld => ?_); refine with_tabW f77_tab f77_bits (fun HT_ HW_ => ?_)
          refine pu_ (i := 0) (N := some 28) HT_ (bl_ 11 1) ?_
          refine tk_ (i := 1) (N := some 29) HT_ HW_ (bl_ 11 3) hHeld ?_ (hy := by rintro w' ⟨s0, s1, s2, s3, s4, s5, s6, s7⟩; go_simp; with_reducible rfl)
          refine pu_ (i := 2) (N := some 30) HT_ (bl_ 11 7) ?_
          refine pu_ (i := 3) (N := some 31) HT_ (bl_ 11 15) ?_
          refine pu_ (i := 4) (N := some 32) HT_ (bl_ 11 31) ?_
          refine pu_ (i := 5) (N := some 33) HT_ (bl_ 11 63) ?_
          refine pu_ (i := 6) (N := some 34) HT_ (bl_ 11 127) ?_
          refine pu_ (i := 7) (N := some 35) HT_ (bl_ 11 255) ?_
          refine pu_ (i := 8) (N := some 36) HT_ (bl_ 11 511) ?_
          refine pu_ (i := 9) (N := some 37) HT_ (bl_ 11 1023) ?_
          have K7 := Lib.hid (show W6.drew.heap[w.heap.size]? = some (.cells #[.string ⟨#[]⟩, .slice none 0 0, .string ⟨#[]⟩, .string ⟨#[]⟩, .slice none 0 0, .slice none 0 0, .slice none 0 0, .string ⟨#[]⟩, .string ⟨#[]⟩] 103 (0, 0)) from K6.out)
          have O7 := Lib.hid (O6.out.below (below_drew (Below.refl _ _)))
          have HB7 := Lib.hid (below_drew HB6.out)
          clear hHeld EQ N6 K6 O6 HB6
          generalize W6.drew = W7 at *
          have k0 := (blk_cell K7.out 0).trans rfl
          have f0 := blk_frozen K7.out 0
          have k1 := (blk_cell K7.out 1).trans rfl
          have f1 := blk_frozen K7.out 1
          have k2 := (blk_cell K7.out 2).trans rfl
          have f2 := blk_frozen K7.out 2
          have k3 := (blk_cell K7.out 3).trans rfl
          have f3 := blk_frozen K7.out 3
          have k4 := (blk_cell K7.out 4).trans rfl
          have f4 := blk_frozen K7.out 4
          have k5 := (blk_cell K7.out 5).trans rfl
          have f5 := blk_frozen K7.out 5
          have k6 := (blk_cell K7.out 6).trans rfl
          have f6 := blk_frozen K7.out 6
          have k7 := (blk_cell K7.out 7).trans rfl
          have f7 := blk_frozen K7.out 7
          have k8 := (blk_cell K7.out 8).trans rfl
          have f8 := blk_frozen K7.out 8
          refine last_ (i := 10) (N := none) #[true, true, true, true, true, true, true, true, true, true, true] rfl rfl (one_of HT_.out (by kernel_rfl)) (by decide) (fun K hK => ?_)
          refine skip_ (w1 := ?_) (by rfl) rfl ?_ ?_
          rotate_left
          · go_simp
            rfl
          refine hK.out _ _ ?_
          clear hK K
          refine done_ (done_of HT_.out (by kernel_rfl)) ?_
          go_wp2
          refine bodyPost_ret (results_cell_row rfl _ _ w.heap.size 103 (#[.string U.lang, .slice U_1 U.ext.length U_c1, .string U.script, .string U.region, .slice U_4 U.vars.length U_c4, .slice U_5 U.exts.length U_c5, .slice U_6 U.priv.length U_c6, .string U.grand, .string ByteArray.empty]) (0, 0) _ rfl (put9 K7.out _ _ _ _ _ _ _ _ _) Tryz.underlying103 rfl (by kernel_rfl)) rfl ?_
          exact ⟨U_1, U_c1, U_4, U_c4, U_5, U_c5, U_6, U_c6, rfl, (own9 O7.out K7.out _ _ _ _ _ _ _ _ _).rows, below9 HB7.out (Nat.le_refl _) _ _ _ _ _ _ _ _ _⟩
        | bad kd pl what =>
          rw [hr] at hB DX
          have HM := Lib.hid hB.symm
          have e0 : (kd == (0 : Int)) = false := by rcases bad_kind hr with rfl | rfl <;> decide
          clear hB hr hxs hn hf DC
          go_wp2_with (go_at_call 60; refine (DX.out _).mono ?_; rintro e w3 ⟨hb, rfl⟩; have HB3 := Lib.hid (below_step hW.out hb); have K3 := Lib.hid (blk_on hK.out hb); obtain ⟨⟨p0, p1, p2, p3, p4, p5, p6, p7, p8, p9, p10⟩, -⟩ := cells11p (new_blk w3 (.cells #[.string ⟨#[]⟩, .slice none 0 0, .string ⟨#[]⟩, .string ⟨#[]⟩, .slice none 0 0, .slice none 0 0, .slice none 0 0, .string ⟨#[]⟩, .int .i64 kd, .int .i64 pl, .string what] 97)); clear hb hW hK DX)
          rw [w1]
          refine ⟨⟨m, rfl, Lib.hid (by have := HN1.out; omega), HM, Lib.hid (below_alloc HB3.out _), Lib.hid (blk_alloc1 K3.out _)⟩, ?_⟩
          show (m : Int).toNat < ((m + 1 : Nat) : Int).toNat
          omega
end Go.Proofs.YtejnfbfikadpdaaGreatDoor.P
