/- The tests that tag.Right hands over, and tag.once, walked. Conditions: texts are shorter than 2^47 bytes. -/
import Derived.Test.YtejnfbfikadpdaaGreatDoorHandEvery
import Derived.Test.YtejnfbfikadpdaaGreatDoorPureBack
import Derived.Maps.OwnSet
import Derived.Test.YtejnfbfikadpdaaGreatDoorHandParse
import Derived.Test.YtejnfbfikadpdaaGreatDoorPx5
namespace Go.Proofs.YtejnfbfikadpdaaGreatDoor.P
open Go.RowKit Go.Shelf Go.Proofs.YtejnfbfikadpdaaGreatDoorW.PrintWords Go.Proofs.YtejnfbfikadpdaaGreatDoorW.PrintLast Go.Proofs.YtejnfbfikadpdaaGreatDoorW.PrintMore Go.Proofs.YtejnfbfikadpdaaGreatDoor.Iso
set_option linter.unusedVariables false
set_option linter.unusedSimpArgs false
attribute [local go_sem] Oper.semAt_some
theorem mapIdx_low (l : Str) : l.mapIdx (fun _ c => lowC c) = low l := by
  induction l with
  | nil => rfl
  | cons c t ih => rw [List.mapIdx_cons]; show lowC c :: _ = lowC c :: low t; congr 1
theorem lower_calls (s : ByteArray) (hs : s.size ≤ 140737488355328) (W : World) : Calls Tryz.prog 42 #[.string s] W fun e W' => e = .returned (.string (mk (low (bl s)))) ∧ Below W.heap.size W W' :=
  ascii_Lower.calls s _ W (by unfold ascii_Lower.f; rw [if_pos hs, mapIdx_low])
set_option maxRecDepth 100000 in
set_option maxHeartbeats 1000000 in
theorem isSmall_calls (s : ByteArray) (hs : s.size ≤ 140737488355328) (W : World) : Calls Tryz.prog 134 #[.string s] W fun e W' => e = .returned (.bool (lowOk s)) ∧ Below W.heap.size W W' := by
  have LC := lower_calls s hs W
  obtain ⟨y, hy⟩ : ∃ y, y = mk (low (bl s)) := ⟨_, rfl⟩
  have q : (s.toList == y.toList) = lowOk s := by
    rw [hy]
    unfold lowOk
    rw [Bool.eq_iff_iff, beq_iff_eq, toL, bl_mk, decide_eq_true_eq]
  rw [← hy] at LC
  have HC := Lib.hid LC
  clear LC hy
  go_enter Tryz.func134, Tryz.ntmps134
  go_wp2_with (go_at_call 42; refine HC.out.mono ?_; rintro e w2 ⟨rfl, hb⟩; have HB := Lib.hid hb; clear hb)
  go_ret
  exact ⟨rfl, HB.out⟩
theorem alnumO_calls (s : ByteArray) (hn : s.size ≤ 140737488355328) (w : World) : Calls Tryz.prog 114 #[.string s] w fun e w' => e = .returned (.bool (alnum (bl s))) ∧ Drawn0 w w' := by
  obtain ⟨k, hk⟩ := (ascii_Alnum_ev s hn).rounds
  exact ascii_Alnum.calls k s _ w hk
set_option maxRecDepth 100000 in
set_option maxHeartbeats 1000000 in
theorem sub_calls (m : Int) (W : World) : Calls Tryz.prog 106 #[.int .i64 m] W fun e W' => e = .returned (.func (.func 138) #[] #[.pointer (some ⟨W.heap.size, 0, none⟩)]) ∧ W' = W.alloc (.cells #[.int .i64 m] 3) := by
  go_enter Tryz.func106, Tryz.ntmps106
  go_wp2
  go_ret
  exact ⟨rfl, rfl⟩
theorem sub_is (s : ByteArray) (m : Nat) (hm : 1 ≤ m) : (alnum (bl s) && (decide (m ≤ s.size) && decide (s.size ≤ 8))) = subOk m s := by
  unfold subOk
  rw [← okB_sub]
  unfold okB
  by_cases h8 : s.size ≤ 8 <;> cases alnum (bl s) <;> by_cases h : m ≤ s.size <;> simp [h8, h]
set_option maxRecDepth 100000 in
set_option maxHeartbeats 1000000 in
theorem sub1_calls (b m : Nat) (hm : 1 ≤ m) (hm8 : m ≤ 8) (s : ByteArray) (hs : s.size ≤ 140737488355328) (W : World) (hb : W.cell? ⟨b, 0, none⟩ = some (.int .i64 (m : Int))) :
    Calls Tryz.prog 138 #[.string s, .pointer (some ⟨b, 0, none⟩)] W fun e W' => e = .returned (.bool (subOk m s)) ∧ Below W.heap.size W W' := by
  have AC := alnumO_calls s hs W
  have LC := fun V : World => tag_long.calls s (m : Int) 8 (decide (m ≤ s.size) && decide (s.size ≤ 8)) V (by
    unfold tag_long.f
    by_cases c : m ≤ s.size
    · rw [if_pos (by omega), decide_eq_true c, Bool.true_and]
      congr 1
      exact decide_eq_decide.2 (by omega)
    · rw [if_neg (by omega), decide_eq_false c, Bool.false_and])
  have hr := sub_is s m hm
  obtain ⟨x, hx⟩ : ∃ x, x = (decide (m ≤ s.size) && decide (s.size ≤ 8)) := ⟨_, rfl⟩
  rw [← hx] at LC hr
  have HL := Lib.hid LC
  cases c : alnum (bl s) with
  | true =>
    rw [c] at AC hr
    rw [Bool.true_and] at hr
    rw [← hr]
    have HA := Lib.hid AC
    clear AC LC hr hx c
    go_enter Tryz.func138, Tryz.ntmps138
    go_wp2_with (first | (go_at_call 114; refine HA.out.mono ?_; rintro e w2 ⟨rfl, ⟨nd, rfl⟩⟩) | (go_at_call 139; refine (HL.out _).mono ?_; rintro e w3 ⟨rfl, ⟨nd2, rfl⟩⟩))
    go_ret
    exact ⟨rfl, pw_below_drewN (Below.refl _ _) _⟩
  | false =>
    rw [c] at AC hr
    rw [Bool.false_and] at hr
    rw [← hr]
    have HA := Lib.hid AC
    clear AC LC hr hx c
    go_enter Tryz.func138, Tryz.ntmps138
    go_wp2_with (first | (go_at_call 114; refine HA.out.mono ?_; rintro e w2 ⟨rfl, ⟨nd, rfl⟩⟩) | (go_at_call 139; refine (HL.out _).mono ?_; rintro e w3 ⟨rfl, ⟨nd2, rfl⟩⟩))
    go_ret
    exact ⟨rfl, pw_below_drewN (Below.refl _ _) _⟩
def Seen (W : World) (M k : Nat) (l : List ByteArray) : Prop :=
  ∃ D : DataW Nat, W.ownsMap Tryz.prog 9 (plainElem Tryz.prog 4) M k D ∧ ∀ s : ByteArray, D.atKey (.string s.data.toList) (.lit (.bool false)) = .lit (.bool (decide (bl s ∈ l.map bl)))
theorem Seen.below {W W' : World} {M k : Nat} {l : List ByteArray} (h : Seen W M k l) (hb : Below W.heap.size W W') : Seen W' M k l := by
  obtain ⟨D, ⟨es, clock, hg, r⟩, h2⟩ := h
  exact ⟨D, ⟨es, clock, blk_on hg hb, r⟩, h2⟩
theorem plainElem_bool_inv {P : Program} {e : TypeId} (he : P.underlying e = some .bool) {v : Value} {z : DataW Nat × List MemPlace} (h : plainElem P e v = some z) : ∃ x, v = .bool x ∧ z = (.lit (.bool x), []) := by
  unfold plainElem at h
  rw [he] at h
  cases v <;> simp at h
  exact ⟨_, rfl, h.symm⟩
theorem zeroBool (W : World) : (zeroValue 4).run Tryz.prog W = .ok (.bool false) W := by kernel_rfl
set_option maxRecDepth 100000 in
theorem Seen.look {W : World} {M k : Nat} {l : List ByteArray} (h : Seen W M k l) (s : ByteArray) (hs : s.size ≤ 140737488355328) :
    (Instr.lookup 183 (.map (some M)) (.string s) false).run Tryz.prog W = .ok (.bool (decide (bl s ∈ l.map bl))) W := by
  obtain ⟨D, ho, hD⟩ := h
  obtain ⟨v, ps, hrun, hv⟩ := ho.lookup (Go.Maps.string_keyed Tryz.underlying9) Tryz.underlying183 (zeroBool W) (plainElem_bool Tryz.underlying4 false) (WideMaps.keyOf_string_mk (s := s) Tryz.underlying9 (by unfold maxLen; omega))
  obtain ⟨x, rfl, e⟩ := plainElem_bool_inv Tryz.underlying4 hv
  have e1 := congrArg Prod.fst e
  rw [hD s] at e1
  injection e1 with e1
  injection e1 with e1
  rw [hrun, e1]
set_option maxRecDepth 100000 in
theorem Seen.put {W : World} {M k : Nat} {l : List ByteArray} (h : Seen W M k l) (s : ByteArray) (hs : s.size ≤ 140737488355328) (hk : k ≤ 1000000) :
    ∃ W', (Instr.mapUpdate 183 (.map (some M)) (.string s) (.bool true)).run Tryz.prog W = .ok () W' ∧ Seen W' M (k + 1) (l ++ [s]) ∧ W.grownBy W' (some M) := by
  obtain ⟨D, ho, hD⟩ := h
  have hkey : keyOf Tryz.prog 9 (.string s) = some (.string s.data.toList) := WideMaps.keyOf_string_mk Tryz.underlying9 (by unfold maxLen; omega)
  obtain ⟨W', hrun, ho', hg⟩ := ho.update (Go.Maps.string_keyed Tryz.underlying9) Tryz.underlying183 (by unfold maxLen; omega) hkey (plainElem_bool (H := Nat) Tryz.underlying4 true)
  refine ⟨W', hrun, ⟨_, ho', fun t => ?_⟩, hg⟩
  by_cases e : bl t = bl s
  · obtain rfl := bl_inj e
    rw [Go.Maps.atKey_put_same (k := .string _) ho.isMap trivial]
    simp
  · rw [Go.Maps.atKey_put_other (fun h => e (by injection h with h)), hD t]
    congr 2
    exact decide_eq_decide.2 (by simp [e])
theorem seen_made (W : World) : Seen (W.alloc (.map #[] 0)) W.heap.size 0 [] :=
  ⟨.map [], World.ownsMap_made W _ _ _, fun s => rfl⟩
set_option maxRecDepth 100000 in
set_option maxHeartbeats 1000000 in
theorem once1_calls (b M k : Nat) (l : List ByteArray) (s : ByteArray) (hs : s.size ≤ 140737488355328) (hk : k ≤ 1000000) (W : World) (hb : W.heap[b]? = some (.cells #[.map (some M)] 183 (0, 0))) (hS : Seen W M k l) :
    Calls Tryz.prog 160 #[.string s, .pointer (some ⟨b, 0, none⟩)] W fun e W' => e = .returned (.bool (!(decide (bl s ∈ l.map bl)))) ∧ Seen W' M (k + 1) (l ++ [s]) ∧ W.grownBy W' (some M) := by
  have z0 : W.cell? ⟨b, 0, none⟩ = some (.map (some M)) := (blk_cell hb 0).trans rfl
  have hl := hS.look s hs
  obtain ⟨x, hx⟩ : ∃ x, x = decide (bl s ∈ l.map bl) := ⟨_, rfl⟩
  rw [← hx] at hl ⊢
  obtain ⟨W2, hrun, hS2, hg⟩ := hS.put s hs hk
  have HS2 := Lib.hid hS2
  have HG := Lib.hid hg
  clear hb hS hS2 hg hx
  go_enter Tryz.func160, Tryz.ntmps160
  go_wp2
  go_ret
  exact ⟨rfl, HS2.out, HG.out⟩
def onceB (l : List ByteArray) : Nat → Bool := allN fun i => !(decide (bl (l.getD i ⟨#[]⟩) ∈ (l.take i).map bl))
theorem onceB_is : ∀ (n : Nat) (l : List ByteArray), n ≤ l.length → (onceB l n = true ↔ ((l.take n).map bl).Nodup)
  | 0, l, _ => by simp [onceB, allN]
  | n + 1, l, h => by
    have ih := onceB_is n l (by omega)
    have e : l.take (n + 1) = l.take n ++ [l[n]] := by rw [List.take_add_one, List.getElem?_eq_getElem (by omega)]; rfl
    have eg : l.getD n ⟨#[]⟩ = l[n] := by rw [List.getD_eq_getElem?_getD, List.getElem?_eq_getElem (by omega)]; rfl
    unfold onceB at ih ⊢
    unfold allN
    rw [Bool.and_eq_true, ih, e, List.map_append, List.nodup_append, eg]
    simp
    intro _
    constructor
    · intro h a ha e
      exact h (e ▸ ha)
    · intro h hm
      exact h _ hm rfl
set_option maxRecDepth 100000 in
set_option maxHeartbeats 1000000 in
theorem once_calls (A : Option Addr) (c : Nat) (l : List ByteArray) (hl : l.length ≤ 100000) (hs : ∀ s ∈ l, s.size ≤ 140737488355328) (w : World) (hC : Kd.C Kd.string w A l.length l) :
    Calls Tryz.prog 145 #[.slice A l.length c] w fun e W' => e = .returned (.bool (onceB l l.length)) ∧ Below w.heap.size w W' := by
  have hmm := @run_makeMap Tryz.prog
  have C := Lib.hid ((allS1_calls A l.length c 160 (w.heap.size + 1) (fun i => .string (l.getD i ⟨#[]⟩)) (fun i => !(decide (bl (l.getD i ⟨#[]⟩) ∈ (l.take i).map bl)))
    (fun i W => (Below w.heap.size w W ∧ w.heap.size + 1 < W.heap.size) ∧ W.heap[w.heap.size + 1]? = some (.cells #[.map (some w.heap.size)] 183 (0, 0)) ∧ Seen W w.heap.size i (l.take i))
    (by omega) (enters_of Tryz.func160 (by kernel_rfl) rfl)
    (fun i W W' ⟨⟨h1, h2⟩, h3, h4⟩ hb => ⟨⟨below_step h1 hb, Nat.lt_of_lt_of_le h2 hb.size⟩, blk_on h3 hb, h4.below hb⟩)
    (fun i W hi h => by
      obtain ⟨ad, ea, x0⟩ := Kd.at_string (Kd.C_below hC h.1.1) (i : Int) (by omega) (by omega)
      refine ⟨ad, ea, ?_⟩
      rw [Int.toNat_natCast] at x0
      rw [x0]
      rfl)
    (fun i W hi h => by
      have hg : l.getD i ⟨#[]⟩ = l[i] := by rw [List.getD_eq_getElem?_getD, List.getElem?_eq_getElem hi]; rfl
      rw [hg]
      refine (once1_calls (w.heap.size + 1) w.heap.size i (l.take i) l[i] (hs _ (List.getElem_mem hi)) (by omega) W h.2.1 h.2.2).mono ?_
      rintro e W' ⟨rfl, hS, hgr⟩
      obtain ⟨D, ⟨es, clock, hm, -⟩, -⟩ := h.2.2
      refine ⟨rfl, ⟨⟨h.1.1.grown hgr (by have := h.1.2; omega) (fun k hk => by cases hk; exact Nat.le_refl _), Nat.lt_of_lt_of_le h.1.2 hgr.size⟩, (hgr.block _ h.1.2 (by simp)).trans h.2.1, ?_⟩, fun B cs hB => ?_⟩
      · rw [List.take_add_one, List.getElem?_eq_getElem hi]
        exact hS
      · refine (hgr.block B (blk_lt hB) ?_).trans hB
        intro e
        injection e with e
        rw [e, hm] at hB
        cases hB)
    ((w.alloc (.map #[] 0)).alloc (.cells #[.map (some w.heap.size)] 183))
    ⟨⟨below_alloc (below_alloc (Below.refl _ _) _) _, by simp⟩, by have := new_blk (w.alloc (.map #[] 0)) (.cells #[.map (some w.heap.size)] 183); rw [show (w.alloc (.map #[] 0)).heap.size = w.heap.size + 1 by simp] at this; exact this, (seen_made w).below (below_alloc (Below.refl _ _) _)⟩).mono fun e W' ⟨he, i, _, hI, _⟩ => (⟨he, hI.1.1⟩ : e = Ending.returned (.bool (onceB l l.length)) ∧ Below w.heap.size w W'))
  clear hl hs hC
  go_enter Tryz.func145, Tryz.ntmps145
  go_wp2_with (go_at_call 105; refine C.out.mono ?_; rintro e w2 ⟨rfl, hI⟩; have HI := Lib.hid hI; clear hI)
  go_ret
  exact ⟨rfl, HI.out⟩
end Go.Proofs.YtejnfbfikadpdaaGreatDoor.P
