/- tag.all at texts, tests and extensions, walked: at any test that keeps what it must. Condition: a row is no longer than a whole number. -/
import Derived.Test.YtejnfbfikadpdaaGreatDoorEvMade
import Derived.Test.YtejnfbfikadpdaaGreatDoorHand1
namespace Go.Proofs.YtejnfbfikadpdaaGreatDoor.P
open Go.RowKit Go.Shelf Go.Proofs.YtejnfbfikadpdaaGreatDoorW.PrintWords
set_option linter.unusedVariables false
set_option linter.unusedSimpArgs false
attribute [local go_sem] Oper.semAt_some
def allN (p : Nat → Bool) : Nat → Bool
  | 0 => true
  | n + 1 => allN p n && p n
theorem allN_le {p : Nat → Bool} : ∀ {n : Nat}, allN p n = true → ∀ i < n, p i = true
  | 0, _, i, hi => by omega
  | n + 1, h, i, hi => by
    unfold allN at h
    rw [Bool.and_eq_true] at h
    by_cases e : i = n
    · rw [e]; exact h.2
    · exact allN_le h.1 i (by omega)
theorem allN_of {p : Nat → Bool} : ∀ {n : Nat}, (∀ i < n, p i = true) → allN p n = true
  | 0, _ => rfl
  | n + 1, h => by
    unfold allN
    rw [allN_of (fun i hi => h i (by omega)), h n (by omega)]; rfl
theorem allN_not {p : Nat → Bool} {n i : Nat} (hi : i < n) (h : p i = false) : allN p n = false := by
  cases c : allN p n with
  | false => rfl
  | true => rw [allN_le c i hi] at h; cases h
def IdxSd (p : Nat → Bool) (n : Nat) (Inv : Nat → World → Prop) (e : Ending) (W' : World) : Prop :=
  ∃ (k : Int) (i : Nat), e = .returned (.int .i64 k) ∧ decide (0 ≤ k) = !(allN p n) ∧ i ≤ n ∧ Inv i W' ∧ (allN p n = true → i = n)
def AllSd (r : Bool) (p : Nat → Bool) (n : Nat) (Inv : Nat → World → Prop) (e : Ending) (W' : World) : Prop :=
  e = .returned (.bool r) ∧ ∃ i : Nat, i ≤ n ∧ Inv i W' ∧ (allN p n = true → i = n)
def KeepsT (t : TypeId) (W W' : World) : Prop := ∀ (B : Nat) (cs : Array Value), W.heap[B]? = some (Obj.cells cs t (0, 0)) → W'.heap[B]? = some (Obj.cells cs t (0, 0))
theorem keepsT_below {t : TypeId} {W W' : World} (h : Below W.heap.size W W') : KeepsT t W W' := fun B cs hB => blk_on hB h
set_option maxRecDepth 100000 in
set_option maxHeartbeats 4000000 in
theorem idxS_calls (A : Option Addr) (n c B : Nat) (v : Nat → Value) (p : Nat → Bool) (Inv : Nat → World → Prop) (hn : n ≤ 9223372036854775807)
    (hv : ∀ i W, i < n → Inv i W → ∃ ad, A = some ad ∧ W.cell? (ad.add i) = some (v i))
    (hF : ∀ i W, i < n → Inv i W → Calls Tryz.prog 137 #[v i, .pointer (some ⟨B, 0, none⟩)] W fun e W' => e = .returned (.bool (!(p i))) ∧ Inv (i + 1) W')
    (w : World) (h0 : Inv 0 w) :
    Calls Tryz.prog 157 #[.slice A n c, .func (.func 137) #[] #[.pointer (some ⟨B, 0, none⟩)]] w fun e W' => IdxSd p n Inv e W' := by
  have HN := Lib.hid hn
  have HV := Lib.hid hv
  have HF := Lib.hid hF
  have H0 := Lib.hid h0
  clear hn hv hF h0
  go_enter Tryz.func157, Tryz.ntmps157
  go_wp2
  go_loopg [8] n (fun kq v8 w' => ∃ i : Nat, v8 = .int .i64 i ∧ kq + i = n ∧ Hid (Inv i w') ∧ Hid (∀ j < i, p j = true))
  case atStart => exact ⟨0, rfl, rfl, H0, Lib.hid (fun j hj => absurd hj (Nat.not_lt_zero j))⟩
  case round =>
    obtain ⟨i, rfl, hk, INV, PRE⟩ := hrel
    have hN := HN.out
    cases gk with
    | zero =>
      have c1 : decide ((i : Int) < (n : Int)) = false := decide_eq_false (by omega)
      have hi : i = n := by omega
      have HA := Lib.hid (allN_of (p := p) (n := n) (fun j hj => PRE.out j (by omega)))
      have HI := Lib.hid hi
      clear hi hN
      go_wp2
      go_ret
      exact ⟨-1, i, rfl, by rw [HA.out]; rfl, by have := HI.out; omega, INV.out, fun _ => HI.out⟩
    | succ k1 =>
      have c1 : decide ((i : Int) < (n : Int)) = true := decide_eq_true (by omega)
      have hi : i < n := by omega
      obtain ⟨ad, rfl, hx⟩ := HV.out i wr hi INV.out
      have C := HF.out i wr hi INV.out
      cases hp : p i with
      | true =>
        rw [hp] at C
        have HC := Lib.hid C
        have PRE2 := Lib.hid (show ∀ j < i + 1, p j = true from fun j hj => by
          by_cases e : j = i
          · rw [e]; exact hp
          · exact PRE.out j (by omega))
        clear C hp
        go_wp2_with (go_at_call 137; refine HC.out.mono ?_; rintro e w2 ⟨rfl, hI⟩; have INV2 := Lib.hid hI; clear hI)
        have hw : wrap64 ((i : Int) + 1) = ((i + 1 : Nat) : Int) := by unfold wrap64; omega
        go_roundg k1
        case measure => omega
        case rel => exact ⟨i + 1, by first | rfl | exact congrArg _ hw | (simp), by omega, INV2, PRE2⟩
      | false =>
        rw [hp] at C
        have HC := Lib.hid C
        have HA := Lib.hid (allN_not hi hp)
        have HI := Lib.hid hi
        clear C hp
        go_wp2_with (go_at_call 137; refine HC.out.mono ?_; rintro e w2 ⟨rfl, hI⟩; have INV2 := Lib.hid hI; clear hI)
        go_ret
        exact ⟨i, i + 1, rfl, by rw [HA.out, decide_eq_true (by omega)]; rfl, HI.out, INV2.out, fun h => by rw [HA.out] at h; cases h⟩
set_option maxRecDepth 100000 in
set_option maxHeartbeats 4000000 in
theorem hasS_calls (A : Option Addr) (n c B : Nat) (v : Nat → Value) (p : Nat → Bool) (Inv : Nat → World → Prop) (hn : n ≤ 9223372036854775807)
    (hv : ∀ i W, i < n → Inv i W → ∃ ad, A = some ad ∧ W.cell? (ad.add i) = some (v i))
    (hF : ∀ i W, i < n → Inv i W → Calls Tryz.prog 137 #[v i, .pointer (some ⟨B, 0, none⟩)] W fun e W' => e = .returned (.bool (!(p i))) ∧ Inv (i + 1) W')
    (w : World) (h0 : Inv 0 w) :
    Calls Tryz.prog 136 #[.slice A n c, .func (.func 137) #[] #[.pointer (some ⟨B, 0, none⟩)]] w fun e W' => AllSd (!(allN p n)) p n Inv e W' := by
  have C := Lib.hid (idxS_calls A n c B v p Inv hn hv hF w h0)
  clear hn hv hF h0
  go_enter Tryz.func136, Tryz.ntmps136
  go_wp2_with (go_at_call 157; refine C.out.mono ?_; rintro e w2 ⟨k, i, rfl, hk, hi, hI, ha⟩; have HK := Lib.hid hk; have HI := Lib.hid hI; have HA := Lib.hid ha; have HL := Lib.hid hi; clear hk hI ha hi)
  go_ret
  exact ⟨by rw [← HK.out]; rfl, i, HL.out, HI.out, HA.out⟩
set_option maxRecDepth 100000 in
set_option maxHeartbeats 4000000 in
theorem all1S0_calls (g B : Nat) (x : Value) (r : Bool) (eg : ∀ args w, (callFunc g args).run Tryz.prog w = .ok (.enter g args) w) (J : World → Prop)
    (W : World) (hB : W.heap[B]? = some (.cells #[.func (.func g) #[] #[]] 59 (0, 0)))
    (hF : Calls Tryz.prog g #[x] W fun e W' => e = .returned (.bool r) ∧ J W') :
    Calls Tryz.prog 137 #[x, .pointer (some ⟨B, 0, none⟩)] W fun e W' => e = .returned (.bool (!r)) ∧ J W' := by
  have z0 : W.cell? ⟨B, 0, none⟩ = some (.func (.func g) #[] #[]) := (blk_cell hB 0).trans rfl
  have HC := Lib.hid hF
  clear hF hB
  go_enter Tryz.func137, Tryz.ntmps137
  go_wp2_with (refine HC.out.mono ?_; rintro e w2 ⟨rfl, hJ⟩; have HJ := Lib.hid hJ; clear hJ)
  go_ret
  exact ⟨rfl, HJ.out⟩
set_option maxRecDepth 100000 in
set_option maxHeartbeats 4000000 in
theorem allS0_calls (A : Option Addr) (n c g : Nat) (v : Nat → Value) (p : Nat → Bool) (Inv : Nat → World → Prop) (hn : n ≤ 9223372036854775807)
    (eg : ∀ args w, (callFunc g args).run Tryz.prog w = .ok (.enter g args) w)
    (hb : ∀ i W W', Inv i W → Below W.heap.size W W' → Inv i W')
    (hv : ∀ i W, i < n → Inv i W → ∃ ad, A = some ad ∧ W.cell? (ad.add i) = some (v i))
    (hF : ∀ i W, i < n → Inv i W → Calls Tryz.prog g #[v i] W fun e W' => e = .returned (.bool (p i)) ∧ Inv (i + 1) W' ∧ KeepsT 59 W W')
    (w : World) (h0 : Inv 0 w) :
    Calls Tryz.prog 105 #[.slice A n c, .func (.func g) #[] #[]] w fun e W' => AllSd (allN p n) p n Inv e W' := by
  have C := Lib.hid (hasS_calls A n c w.heap.size v p (fun i W => Inv i W ∧ W.heap[w.heap.size]? = some (.cells #[.func (.func g) #[] #[]] 59 (0, 0))) hn (fun i W hi h => hv i W hi h.1)
    (fun i W hi h => all1S0_calls g w.heap.size (v i) (p i) eg _ W h.2 ((hF i W hi h.1).mono fun e W' ⟨he, hI, hk⟩ => ⟨he, hI, hk _ _ h.2⟩))
    (w.alloc (.cells #[.func (.func g) #[] #[]] 59)) ⟨hb 0 w _ h0 (below_alloc (Below.refl _ _) _), new_blk w _⟩)
  clear hn hb hv hF h0
  go_enter Tryz.func105, Tryz.ntmps105
  go_wp2_with (go_at_call 136; refine C.out.mono ?_; rintro e w2 ⟨rfl, i, hi, hI, ha⟩; have HI := Lib.hid hI; have HA := Lib.hid ha; have HL := Lib.hid hi; clear hI ha hi)
  go_ret
  exact ⟨rfl, i, HL.out, HI.out.1, HA.out⟩
set_option maxRecDepth 100000 in
set_option maxHeartbeats 4000000 in
theorem all1S1_calls (g b B : Nat) (x : Value) (r : Bool) (eg : ∀ args w, (callFunc g args).run Tryz.prog w = .ok (.enter g args) w) (J : World → Prop)
    (W : World) (hB : W.heap[B]? = some (.cells #[.func (.func g) #[] #[.pointer (some ⟨b, 0, none⟩)]] 59 (0, 0)))
    (hF : Calls Tryz.prog g #[x, .pointer (some ⟨b, 0, none⟩)] W fun e W' => e = .returned (.bool r) ∧ J W') :
    Calls Tryz.prog 137 #[x, .pointer (some ⟨B, 0, none⟩)] W fun e W' => e = .returned (.bool (!r)) ∧ J W' := by
  have z0 : W.cell? ⟨B, 0, none⟩ = some (.func (.func g) #[] #[.pointer (some ⟨b, 0, none⟩)]) := (blk_cell hB 0).trans rfl
  have HC := Lib.hid hF
  clear hF hB
  go_enter Tryz.func137, Tryz.ntmps137
  go_wp2_with (refine HC.out.mono ?_; rintro e w2 ⟨rfl, hJ⟩; have HJ := Lib.hid hJ; clear hJ)
  go_ret
  exact ⟨rfl, HJ.out⟩
set_option maxRecDepth 100000 in
set_option maxHeartbeats 4000000 in
theorem allS1_calls (A : Option Addr) (n c g b : Nat) (v : Nat → Value) (p : Nat → Bool) (Inv : Nat → World → Prop) (hn : n ≤ 9223372036854775807)
    (eg : ∀ args w, (callFunc g args).run Tryz.prog w = .ok (.enter g args) w)
    (hb : ∀ i W W', Inv i W → Below W.heap.size W W' → Inv i W')
    (hv : ∀ i W, i < n → Inv i W → ∃ ad, A = some ad ∧ W.cell? (ad.add i) = some (v i))
    (hF : ∀ i W, i < n → Inv i W → Calls Tryz.prog g #[v i, .pointer (some ⟨b, 0, none⟩)] W fun e W' => e = .returned (.bool (p i)) ∧ Inv (i + 1) W' ∧ KeepsT 59 W W')
    (w : World) (h0 : Inv 0 w) :
    Calls Tryz.prog 105 #[.slice A n c, .func (.func g) #[] #[.pointer (some ⟨b, 0, none⟩)]] w fun e W' => AllSd (allN p n) p n Inv e W' := by
  have C := Lib.hid (hasS_calls A n c w.heap.size v p (fun i W => Inv i W ∧ W.heap[w.heap.size]? = some (.cells #[.func (.func g) #[] #[.pointer (some ⟨b, 0, none⟩)]] 59 (0, 0))) hn (fun i W hi h => hv i W hi h.1)
    (fun i W hi h => all1S1_calls g b w.heap.size (v i) (p i) eg _ W h.2 ((hF i W hi h.1).mono fun e W' ⟨he, hI, hk⟩ => ⟨he, hI, hk _ _ h.2⟩))
    (w.alloc (.cells #[.func (.func g) #[] #[.pointer (some ⟨b, 0, none⟩)]] 59)) ⟨hb 0 w _ h0 (below_alloc (Below.refl _ _) _), new_blk w _⟩)
  clear hn hb hv hF h0
  go_enter Tryz.func105, Tryz.ntmps105
  go_wp2_with (go_at_call 136; refine C.out.mono ?_; rintro e w2 ⟨rfl, i, hi, hI, ha⟩; have HI := Lib.hid hI; have HA := Lib.hid ha; have HL := Lib.hid hi; clear hI ha hi)
  go_ret
  exact ⟨rfl, i, HL.out, HI.out.1, HA.out⟩
set_option maxRecDepth 100000 in
set_option maxHeartbeats 4000000 in
theorem idxF_calls (A : Option Addr) (n c B : Nat) (v : Nat → Value) (p : Nat → Bool) (Inv : Nat → World → Prop) (hn : n ≤ 9223372036854775807)
    (hv : ∀ i W, i < n → Inv i W → ∃ ad, A = some ad ∧ W.cell? (ad.add i) = some (v i))
    (hF : ∀ i W, i < n → Inv i W → Calls Tryz.prog 141 #[v i, .pointer (some ⟨B, 0, none⟩)] W fun e W' => e = .returned (.bool (!(p i))) ∧ Inv (i + 1) W')
    (w : World) (h0 : Inv 0 w) :
    Calls Tryz.prog 158 #[.slice A n c, .func (.func 141) #[] #[.pointer (some ⟨B, 0, none⟩)]] w fun e W' => IdxSd p n Inv e W' := by
  have HN := Lib.hid hn
  have HV := Lib.hid hv
  have HF := Lib.hid hF
  have H0 := Lib.hid h0
  clear hn hv hF h0
  go_enter Tryz.func158, Tryz.ntmps158
  go_wp2
  go_loopg [8] n (fun kq v8 w' => ∃ i : Nat, v8 = .int .i64 i ∧ kq + i = n ∧ Hid (Inv i w') ∧ Hid (∀ j < i, p j = true))
  case atStart => exact ⟨0, rfl, rfl, H0, Lib.hid (fun j hj => absurd hj (Nat.not_lt_zero j))⟩
  case round =>
    obtain ⟨i, rfl, hk, INV, PRE⟩ := hrel
    have hN := HN.out
    cases gk with
    | zero =>
      have c1 : decide ((i : Int) < (n : Int)) = false := decide_eq_false (by omega)
      have hi : i = n := by omega
      have HA := Lib.hid (allN_of (p := p) (n := n) (fun j hj => PRE.out j (by omega)))
      have HI := Lib.hid hi
      clear hi hN
      go_wp2
      go_ret
      exact ⟨-1, i, rfl, by rw [HA.out]; rfl, by have := HI.out; omega, INV.out, fun _ => HI.out⟩
    | succ k1 =>
      have c1 : decide ((i : Int) < (n : Int)) = true := decide_eq_true (by omega)
      have hi : i < n := by omega
      obtain ⟨ad, rfl, hx⟩ := HV.out i wr hi INV.out
      have C := HF.out i wr hi INV.out
      cases hp : p i with
      | true =>
        rw [hp] at C
        have HC := Lib.hid C
        have PRE2 := Lib.hid (show ∀ j < i + 1, p j = true from fun j hj => by
          by_cases e : j = i
          · rw [e]; exact hp
          · exact PRE.out j (by omega))
        clear C hp
        go_wp2_with (go_at_call 141; refine HC.out.mono ?_; rintro e w2 ⟨rfl, hI⟩; have INV2 := Lib.hid hI; clear hI)
        have hw : wrap64 ((i : Int) + 1) = ((i + 1 : Nat) : Int) := by unfold wrap64; omega
        go_roundg k1
        case measure => omega
        case rel => exact ⟨i + 1, by first | rfl | exact congrArg _ hw | (simp), by omega, INV2, PRE2⟩
      | false =>
        rw [hp] at C
        have HC := Lib.hid C
        have HA := Lib.hid (allN_not hi hp)
        have HI := Lib.hid hi
        clear C hp
        go_wp2_with (go_at_call 141; refine HC.out.mono ?_; rintro e w2 ⟨rfl, hI⟩; have INV2 := Lib.hid hI; clear hI)
        go_ret
        exact ⟨i, i + 1, rfl, by rw [HA.out, decide_eq_true (by omega)]; rfl, HI.out, INV2.out, fun h => by rw [HA.out] at h; cases h⟩
set_option maxRecDepth 100000 in
set_option maxHeartbeats 4000000 in
theorem hasF_calls (A : Option Addr) (n c B : Nat) (v : Nat → Value) (p : Nat → Bool) (Inv : Nat → World → Prop) (hn : n ≤ 9223372036854775807)
    (hv : ∀ i W, i < n → Inv i W → ∃ ad, A = some ad ∧ W.cell? (ad.add i) = some (v i))
    (hF : ∀ i W, i < n → Inv i W → Calls Tryz.prog 141 #[v i, .pointer (some ⟨B, 0, none⟩)] W fun e W' => e = .returned (.bool (!(p i))) ∧ Inv (i + 1) W')
    (w : World) (h0 : Inv 0 w) :
    Calls Tryz.prog 140 #[.slice A n c, .func (.func 141) #[] #[.pointer (some ⟨B, 0, none⟩)]] w fun e W' => AllSd (!(allN p n)) p n Inv e W' := by
  have C := Lib.hid (idxF_calls A n c B v p Inv hn hv hF w h0)
  clear hn hv hF h0
  go_enter Tryz.func140, Tryz.ntmps140
  go_wp2_with (go_at_call 158; refine C.out.mono ?_; rintro e w2 ⟨k, i, rfl, hk, hi, hI, ha⟩; have HK := Lib.hid hk; have HI := Lib.hid hI; have HA := Lib.hid ha; have HL := Lib.hid hi; clear hk hI ha hi)
  go_ret
  exact ⟨by rw [← HK.out]; rfl, i, HL.out, HI.out, HA.out⟩
set_option maxRecDepth 100000 in
set_option maxHeartbeats 4000000 in
theorem all1F0_calls (g B : Nat) (x : Value) (r : Bool) (eg : ∀ args w, (callFunc g args).run Tryz.prog w = .ok (.enter g args) w) (J : World → Prop)
    (W : World) (hB : W.heap[B]? = some (.cells #[.func (.func g) #[] #[]] 143 (0, 0)))
    (hF : Calls Tryz.prog g #[x] W fun e W' => e = .returned (.bool r) ∧ J W') :
    Calls Tryz.prog 141 #[x, .pointer (some ⟨B, 0, none⟩)] W fun e W' => e = .returned (.bool (!r)) ∧ J W' := by
  have z0 : W.cell? ⟨B, 0, none⟩ = some (.func (.func g) #[] #[]) := (blk_cell hB 0).trans rfl
  have HC := Lib.hid hF
  clear hF hB
  go_enter Tryz.func141, Tryz.ntmps141
  go_wp2_with (refine HC.out.mono ?_; rintro e w2 ⟨rfl, hJ⟩; have HJ := Lib.hid hJ; clear hJ)
  go_ret
  exact ⟨rfl, HJ.out⟩
set_option maxRecDepth 100000 in
set_option maxHeartbeats 4000000 in
theorem allF0_calls (A : Option Addr) (n c g : Nat) (v : Nat → Value) (p : Nat → Bool) (Inv : Nat → World → Prop) (hn : n ≤ 9223372036854775807)
    (eg : ∀ args w, (callFunc g args).run Tryz.prog w = .ok (.enter g args) w)
    (hb : ∀ i W W', Inv i W → Below W.heap.size W W' → Inv i W')
    (hv : ∀ i W, i < n → Inv i W → ∃ ad, A = some ad ∧ W.cell? (ad.add i) = some (v i))
    (hF : ∀ i W, i < n → Inv i W → Calls Tryz.prog g #[v i] W fun e W' => e = .returned (.bool (p i)) ∧ Inv (i + 1) W' ∧ KeepsT 143 W W')
    (w : World) (h0 : Inv 0 w) :
    Calls Tryz.prog 107 #[.slice A n c, .func (.func g) #[] #[]] w fun e W' => AllSd (allN p n) p n Inv e W' := by
  have C := Lib.hid (hasF_calls A n c w.heap.size v p (fun i W => Inv i W ∧ W.heap[w.heap.size]? = some (.cells #[.func (.func g) #[] #[]] 143 (0, 0))) hn (fun i W hi h => hv i W hi h.1)
    (fun i W hi h => all1F0_calls g w.heap.size (v i) (p i) eg _ W h.2 ((hF i W hi h.1).mono fun e W' ⟨he, hI, hk⟩ => ⟨he, hI, hk _ _ h.2⟩))
    (w.alloc (.cells #[.func (.func g) #[] #[]] 143)) ⟨hb 0 w _ h0 (below_alloc (Below.refl _ _) _), new_blk w _⟩)
  clear hn hb hv hF h0
  go_enter Tryz.func107, Tryz.ntmps107
  go_wp2_with (go_at_call 140; refine C.out.mono ?_; rintro e w2 ⟨rfl, i, hi, hI, ha⟩; have HI := Lib.hid hI; have HA := Lib.hid ha; have HL := Lib.hid hi; clear hI ha hi)
  go_ret
  exact ⟨rfl, i, HL.out, HI.out.1, HA.out⟩
set_option maxRecDepth 100000 in
set_option maxHeartbeats 4000000 in
theorem idxX_calls (A : Option Addr) (n c B : Nat) (v : Nat → Value) (p : Nat → Bool) (Inv : Nat → World → Prop) (hn : n ≤ 9223372036854775807)
    (hv : ∀ i W, i < n → Inv i W → ∃ ad x y, A = some ad ∧ v i = .agg #[x, y] ∧ W.cell? (ad.add (i * 2)) = some x ∧ W.cell? ⟨(ad.add (i * 2)).block, (ad.add (i * 2)).off + 1, none⟩ = some y)
    (hF : ∀ i W, i < n → Inv i W → Calls Tryz.prog 159 #[v i, .pointer (some ⟨B, 0, none⟩)] W fun e W' => e = .returned (.bool (!(p i))) ∧ Inv (i + 1) W')
    (w : World) (h0 : Inv 0 w) :
    Calls Tryz.prog 152 #[.slice A n c, .func (.func 159) #[] #[.pointer (some ⟨B, 0, none⟩)]] w fun e W' => IdxSd p n Inv e W' := by
  have HN := Lib.hid hn
  have HV := Lib.hid hv
  have HF := Lib.hid hF
  have H0 := Lib.hid h0
  clear hn hv hF h0
  go_enter Tryz.func152, Tryz.ntmps152
  go_wp2
  go_loopg [8] n (fun kq v8 w' => ∃ i : Nat, v8 = .int .i64 i ∧ kq + i = n ∧ Hid (Inv i w') ∧ Hid (∀ j < i, p j = true))
  case atStart => exact ⟨0, rfl, rfl, H0, Lib.hid (fun j hj => absurd hj (Nat.not_lt_zero j))⟩
  case round =>
    obtain ⟨i, rfl, hk, INV, PRE⟩ := hrel
    have hN := HN.out
    cases gk with
    | zero =>
      have c1 : decide ((i : Int) < (n : Int)) = false := decide_eq_false (by omega)
      have hi : i = n := by omega
      have HA := Lib.hid (allN_of (p := p) (n := n) (fun j hj => PRE.out j (by omega)))
      have HI := Lib.hid hi
      clear hi hN
      go_wp2
      go_ret
      exact ⟨-1, i, rfl, by rw [HA.out]; rfl, by have := HI.out; omega, INV.out, fun _ => HI.out⟩
    | succ k1 =>
      have c1 : decide ((i : Int) < (n : Int)) = true := decide_eq_true (by omega)
      have hi : i < n := by omega
      obtain ⟨ad, x, y, rfl, hvi, hx, hy⟩ := HV.out i wr hi INV.out
      have C := HF.out i wr hi INV.out
      rw [hvi] at C
      clear hvi
      cases hp : p i with
      | true =>
        rw [hp] at C
        have HC := Lib.hid C
        have PRE2 := Lib.hid (show ∀ j < i + 1, p j = true from fun j hj => by
          by_cases e : j = i
          · rw [e]; exact hp
          · exact PRE.out j (by omega))
        clear C hp
        go_wp2_with (go_at_call 159; refine HC.out.mono ?_; rintro e w2 ⟨rfl, hI⟩; have INV2 := Lib.hid hI; clear hI)
        have hw : wrap64 ((i : Int) + 1) = ((i + 1 : Nat) : Int) := by unfold wrap64; omega
        go_roundg k1
        case measure => omega
        case rel => exact ⟨i + 1, by first | rfl | exact congrArg _ hw | (simp), by omega, INV2, PRE2⟩
      | false =>
        rw [hp] at C
        have HC := Lib.hid C
        have HA := Lib.hid (allN_not hi hp)
        have HI := Lib.hid hi
        clear C hp
        go_wp2_with (go_at_call 159; refine HC.out.mono ?_; rintro e w2 ⟨rfl, hI⟩; have INV2 := Lib.hid hI; clear hI)
        go_ret
        exact ⟨i, i + 1, rfl, by rw [HA.out, decide_eq_true (by omega)]; rfl, HI.out, INV2.out, fun h => by rw [HA.out] at h; cases h⟩
set_option maxRecDepth 100000 in
set_option maxHeartbeats 4000000 in
theorem hasX_calls (A : Option Addr) (n c B : Nat) (v : Nat → Value) (p : Nat → Bool) (Inv : Nat → World → Prop) (hn : n ≤ 9223372036854775807)
    (hv : ∀ i W, i < n → Inv i W → ∃ ad x y, A = some ad ∧ v i = .agg #[x, y] ∧ W.cell? (ad.add (i * 2)) = some x ∧ W.cell? ⟨(ad.add (i * 2)).block, (ad.add (i * 2)).off + 1, none⟩ = some y)
    (hF : ∀ i W, i < n → Inv i W → Calls Tryz.prog 159 #[v i, .pointer (some ⟨B, 0, none⟩)] W fun e W' => e = .returned (.bool (!(p i))) ∧ Inv (i + 1) W')
    (w : World) (h0 : Inv 0 w) :
    Calls Tryz.prog 123 #[.slice A n c, .func (.func 159) #[] #[.pointer (some ⟨B, 0, none⟩)]] w fun e W' => AllSd (!(allN p n)) p n Inv e W' := by
  have C := Lib.hid (idxX_calls A n c B v p Inv hn hv hF w h0)
  clear hn hv hF h0
  go_enter Tryz.func123, Tryz.ntmps123
  go_wp2_with (go_at_call 152; refine C.out.mono ?_; rintro e w2 ⟨k, i, rfl, hk, hi, hI, ha⟩; have HK := Lib.hid hk; have HI := Lib.hid hI; have HA := Lib.hid ha; have HL := Lib.hid hi; clear hk hI ha hi)
  go_ret
  exact ⟨by rw [← HK.out]; rfl, i, HL.out, HI.out, HA.out⟩
set_option maxRecDepth 100000 in
set_option maxHeartbeats 4000000 in
theorem all1X1_calls (g b B : Nat) (x0 x1 : Value) (r : Bool) (eg : ∀ args w, (callFunc g args).run Tryz.prog w = .ok (.enter g args) w) (J : World → Prop)
    (W : World) (hB : W.heap[B]? = some (.cells #[.func (.func g) #[] #[.pointer (some ⟨b, 0, none⟩)]] 152 (0, 0)))
    (hF : Calls Tryz.prog g #[.agg #[x0, x1], .pointer (some ⟨b, 0, none⟩)] (W.alloc (.cells #[x0, x1] 47)) fun e W' => e = .returned (.bool r) ∧ J W') :
    Calls Tryz.prog 159 #[.agg #[x0, x1], .pointer (some ⟨B, 0, none⟩)] W fun e W' => e = .returned (.bool (!r)) ∧ J W' := by
  have z0 : (W.alloc (.cells #[x0, x1] 47)).cell? ⟨B, 0, none⟩ = some (.func (.func g) #[] #[.pointer (some ⟨b, 0, none⟩)]) := (blk_cell (blk_on hB (below_alloc (Below.refl _ _) _)) 0).trans rfl
  have HC := Lib.hid hF
  clear hF hB
  go_enter Tryz.func159, Tryz.ntmps159
  go_wp2_with (refine HC.out.mono ?_; rintro e w2 ⟨rfl, hJ⟩; have HJ := Lib.hid hJ; clear hJ)
  go_ret
  exact ⟨rfl, HJ.out⟩
set_option maxRecDepth 100000 in
set_option maxHeartbeats 4000000 in
theorem allX1_calls (A : Option Addr) (n c g b : Nat) (v : Nat → Value) (p : Nat → Bool) (Inv : Nat → World → Prop) (hn : n ≤ 9223372036854775807)
    (eg : ∀ args w, (callFunc g args).run Tryz.prog w = .ok (.enter g args) w)
    (hb : ∀ i W W', Inv i W → Below W.heap.size W W' → Inv i W')
    (hv : ∀ i W, i < n → Inv i W → ∃ ad x y, A = some ad ∧ v i = .agg #[x, y] ∧ W.cell? (ad.add (i * 2)) = some x ∧ W.cell? ⟨(ad.add (i * 2)).block, (ad.add (i * 2)).off + 1, none⟩ = some y)
    (hF : ∀ i W, i < n → Inv i W → Calls Tryz.prog g #[v i, .pointer (some ⟨b, 0, none⟩)] W fun e W' => e = .returned (.bool (p i)) ∧ Inv (i + 1) W' ∧ KeepsT 152 W W')
    (w : World) (h0 : Inv 0 w) :
    Calls Tryz.prog 143 #[.slice A n c, .func (.func g) #[] #[.pointer (some ⟨b, 0, none⟩)]] w fun e W' => AllSd (allN p n) p n Inv e W' := by
  have C := Lib.hid (hasX_calls A n c w.heap.size v p (fun i W => Inv i W ∧ W.heap[w.heap.size]? = some (.cells #[.func (.func g) #[] #[.pointer (some ⟨b, 0, none⟩)]] 152 (0, 0))) hn (fun i W hi h => hv i W hi h.1)
    (fun i W hi h => by
      obtain ⟨ad, x, y, -, e, -, -⟩ := hv i W hi h.1
      have hF2 := hF i (W.alloc (.cells #[x, y] 47)) hi (hb i W _ h.1 (below_alloc (Below.refl _ _) _))
      rw [e] at hF2 ⊢
      exact all1X1_calls g b w.heap.size x y (p i) eg _ W h.2 (hF2.mono fun e W' ⟨he, hI, hk⟩ => ⟨he, hI, hk _ _ (blk_on h.2 (below_alloc (Below.refl _ _) _))⟩))
    (w.alloc (.cells #[.func (.func g) #[] #[.pointer (some ⟨b, 0, none⟩)]] 152)) ⟨hb 0 w _ h0 (below_alloc (Below.refl _ _) _), new_blk w _⟩)
  clear hn hb hv hF h0
  go_enter Tryz.func143, Tryz.ntmps143
  go_wp2_with (go_at_call 123; refine C.out.mono ?_; rintro e w2 ⟨rfl, i, hi, hI, ha⟩; have HI := Lib.hid hI; have HA := Lib.hid ha; have HL := Lib.hid hi; clear hI ha hi)
  go_ret
  exact ⟨rfl, i, HL.out, HI.out.1, HA.out⟩
end Go.Proofs.YtejnfbfikadpdaaGreatDoor.P
