-- Written for this claim by the session's own run of the print, functions proved by hand put in.
import Derived.Test.YtljadeeoaoiilaaGreatDoorSq
import Derived.Test.YtljadeeoaoiilaaGreatDoorPx0
import Derived.Test.YtljadeeoaoiilaaGreatDoorPx1
import Derived.Test.YtljadeeoaoiilaaGreatDoorPx8
namespace Go.Proofs.YtljadeeoaoiilaaGreatDoor.P
open Go.RowKit Go.Proofs.YtljadeeoaoiilaaGreatDoorW.PrintWords Go.Proofs.YtljadeeoaoiilaaGreatDoorW.PrintLast Go.Proofs.YtljadeeoaoiilaaGreatDoorW.PrintMore
attribute [local go_sem] max2_int min2_int max_two min_two max_three min_three max_four min_four   -- for this text's walks alone
set_option linter.unusedVariables false
set_option linter.unusedSimpArgs false
theorem ascii_Lower_byte (c : UInt8) : ascii_lower.f (c.toNat : Int) = some ((Iso.lowC c).toNat : Int) := by
  have hc := c.toNat_lt
  have e : (Iso.lowC c).toNat = if 65 ≤ c.toNat ∧ c.toNat ≤ 90 then c.toNat + 32 else c.toNat :=
    of_decide_eq_true (Iso.byte_all (fun c => decide ((Iso.lowC c).toNat = if 65 ≤ c.toNat ∧ c.toNat ≤ 90 then c.toNat + 32 else c.toNat)) (by decide +kernel) c)
  unfold ascii_lower.f
  rw [e]
  by_cases h : 65 ≤ c.toNat ∧ c.toNat ≤ 90
  · rw [if_pos (by omega), if_pos (by omega), if_pos h]; congr 1; omega
  · rw [if_neg h]; split
    · rw [if_neg (by omega)]
    · rfl
theorem ascii_Lower_1_calls (i : Nat) (c : UInt8) (W : World) : Calls Tryz.prog 90 #[.int .i64 i, .int .u8 c.toNat] W fun e w' => e = .returned (.int .u8 (Iso.lowC c).toNat) ∧ Below W.heap.size W w' := by
  have H := Lib.hid (ascii_Lower_byte c)
  go_enter Tryz.func90, Tryz.ntmps90
  go_wp2_with (go_at_call 87; refine (ascii_lower.calls _ _ _ H.out).mono ?_; rintro e w' ⟨rfl, hb⟩)
  go_ret
  exact ⟨rfl, hb.below⟩
def ascii_Lower.f (a0 : ByteArray) : Option ByteArray := if a0.size ≤ 140737488355328 then some (Iso.mk ((Iso.bl a0).mapIdx fun i c => Iso.lowC c)) else none
set_option maxHeartbeats 8000000 in
set_option maxRecDepth 100000 in
theorem ascii_Lower.calls (a0 : ByteArray) (r : ByteArray) (w : World) (h : ascii_Lower.f a0 = some r) :
    Calls Tryz.prog 59 #[.string a0] w fun e w' => e = .returned (.string r) ∧ Below w.heap.size w w' := by
  unfold ascii_Lower.f at h
  have hs : a0.size ≤ 140737488355328 := by
    by_cases c2 : a0.size ≤ 140737488355328
    · exact c2
    · rw [if_neg c2] at h; cases h
  rw [if_pos hs] at h
  obtain rfl := Option.some.inj h
  have HC := Lib.hid (fun W => each_calls 90 (fun i c => Iso.lowC c) (fun i c W => ascii_Lower_1_calls i c W) (enters_of Tryz.func90 (by kernel_rfl) rfl) a0 hs W)
  clear h
  go_enter Tryz.func59, Tryz.ntmps59
  go_wp2_with (go_at_call 89; refine (HC.out _).mono ?_; rintro e w' ⟨rfl, hb⟩)
  go_ret
  exact ⟨rfl, hb⟩
def tag_Language.f (k : Nat) (a0 : ByteArray) : Option (Bool) := (ascii_Alpha.f k a0).bind fun af => (if af = true then ((tag_long.f a0 2 8).bind fun ab => (some ab)) else (some false))
set_option maxHeartbeats 8000000 in
set_option maxRecDepth 100000 in
theorem tag_Language.calls (k : Nat) (a0 : ByteArray) (r : Bool) (w : World) (h : tag_Language.f k a0 = some r) :
  Calls Tryz.prog 66 #[.string a0] w fun e w' => e = .returned (.bool r) ∧ Drawn0 w w' := by
 have H := h; unfold tag_Language.f at H
 clear h
 replace H := Option.bind_eq_some_iff.mp H
 obtain ⟨af, aa, H⟩ := H
 try dsimp only at H
 have A2 := Aside0.mk aa
 clear aa
 by_cases c3 : af = true
 ·subst c3
  rw [if_pos rfl] at H
  replace H := Option.bind_eq_some_iff.mp H
  obtain ⟨ab, am, H⟩ := H
  replace H : (some ab) = some r := H
  have A4 := Aside0.mk am
  clear am
  obtain rfl := Option.some.inj H
  go_enter Tryz.func66, Tryz.ntmps66
  go_wp2_with (first | ((with_reducible refine gate_callee (f := 52) rfl ?_); refine goesL_ (some 4) rfl rfl Tryz.func52 (by kernel_rfl) rfl #[.string a0] rfl Qm ?_; (with_reducible refine (ascii_Alpha.calls k a0 true _ A2.out).mono ?_); rintro e w' ⟨rfl, ⟨nd, rfl⟩⟩; refine ⟨_, rfl, ?_⟩) | (go_at_call 50; (with_reducible refine (tag_long.calls a0 2 8 ab _ A4.out).mono ?_); rintro e w' ⟨rfl, ⟨nd, rfl⟩⟩))
  go_ret
  exact ⟨Qs, Q0⟩
 ·replace c3 := Bool.eq_false_iff.mpr c3
  subst c3
  rw [if_neg (show ¬ (false = true) by decide)] at H
  obtain rfl := Option.some.inj H
  go_enter Tryz.func66, Tryz.ntmps66
  go_wp2_with (first | ((with_reducible refine gate_callee (f := 52) rfl ?_); refine goesL_ (some 4) rfl rfl Tryz.func52 (by kernel_rfl) rfl #[.string a0] rfl Qm ?_; (with_reducible refine (ascii_Alpha.calls k a0 false _ A2.out).mono ?_); rintro e w' ⟨rfl, ⟨nd, rfl⟩⟩; refine ⟨_, rfl, ?_⟩))
  go_ret
  exact ⟨Qs, Q0⟩
def tag_Script.f (k : Nat) (a0 : ByteArray) : Option (Bool) := (ascii_Alpha.f k a0).bind fun ag => (if ag = true then (some ((a0.size : Int) == 4)) else (some false))
set_option maxHeartbeats 8000000 in
set_option maxRecDepth 100000 in
theorem tag_Script.calls (k : Nat) (a0 : ByteArray) (r : Bool) (w : World) (h : tag_Script.f k a0 = some r) :
  Calls Tryz.prog 67 #[.string a0] w fun e w' => e = .returned (.bool r) ∧ Drawn0 w w' := by
 have H := h; unfold tag_Script.f at H
 clear h
 replace H := Option.bind_eq_some_iff.mp H
 obtain ⟨ag, aa, H⟩ := H
 try dsimp only at H
 have A2 := Aside0.mk aa
 clear aa
 by_cases c3 : ag = true
 ·subst c3
  rw [if_pos rfl] at H
  obtain rfl := Option.some.inj H
  go_enter Tryz.func67, Tryz.ntmps67
  go_wp2_with (first | ((with_reducible refine gate_callee (f := 52) rfl ?_); refine goesL_ (some 4) rfl rfl Tryz.func52 (by kernel_rfl) rfl #[.string a0] rfl Qm ?_; (with_reducible refine (ascii_Alpha.calls k a0 true _ A2.out).mono ?_); rintro e w' ⟨rfl, ⟨nd, rfl⟩⟩; refine ⟨_, rfl, ?_⟩))
  go_ret
  exact ⟨Qs, Q0⟩
 ·replace c3 := Bool.eq_false_iff.mpr c3
  subst c3
  rw [if_neg (show ¬ (false = true) by decide)] at H
  obtain rfl := Option.some.inj H
  go_enter Tryz.func67, Tryz.ntmps67
  go_wp2_with (first | ((with_reducible refine gate_callee (f := 52) rfl ?_); refine goesL_ (some 4) rfl rfl Tryz.func52 (by kernel_rfl) rfl #[.string a0] rfl Qm ?_; (with_reducible refine (ascii_Alpha.calls k a0 false _ A2.out).mono ?_); rintro e w' ⟨rfl, ⟨nd, rfl⟩⟩; refine ⟨_, rfl, ?_⟩))
  go_ret
  exact ⟨Qs, Q0⟩
def tag_Extlang.f (k : Nat) (a0 : ByteArray) : Option (Bool) := (ascii_Alpha.f k a0).bind fun ah => (if ah = true then (some ((a0.size : Int) == 3)) else (some false))
set_option maxHeartbeats 8000000 in
set_option maxRecDepth 100000 in
theorem tag_Extlang.calls (k : Nat) (a0 : ByteArray) (r : Bool) (w : World) (h : tag_Extlang.f k a0 = some r) :
  Calls Tryz.prog 68 #[.string a0] w fun e w' => e = .returned (.bool r) ∧ Drawn0 w w' := by
 have H := h; unfold tag_Extlang.f at H
 clear h
 replace H := Option.bind_eq_some_iff.mp H
 obtain ⟨ah, aa, H⟩ := H
 try dsimp only at H
 have A2 := Aside0.mk aa
 clear aa
 by_cases c3 : ah = true
 ·subst c3
  rw [if_pos rfl] at H
  obtain rfl := Option.some.inj H
  go_enter Tryz.func68, Tryz.ntmps68
  go_wp2_with (first | ((with_reducible refine gate_callee (f := 52) rfl ?_); refine goesL_ (some 4) rfl rfl Tryz.func52 (by kernel_rfl) rfl #[.string a0] rfl Qm ?_; (with_reducible refine (ascii_Alpha.calls k a0 true _ A2.out).mono ?_); rintro e w' ⟨rfl, ⟨nd, rfl⟩⟩; refine ⟨_, rfl, ?_⟩))
  go_ret
  exact ⟨Qs, Q0⟩
 ·replace c3 := Bool.eq_false_iff.mpr c3
  subst c3
  rw [if_neg (show ¬ (false = true) by decide)] at H
  obtain rfl := Option.some.inj H
  go_enter Tryz.func68, Tryz.ntmps68
  go_wp2_with (first | ((with_reducible refine gate_callee (f := 52) rfl ?_); refine goesL_ (some 4) rfl rfl Tryz.func52 (by kernel_rfl) rfl #[.string a0] rfl Qm ?_; (with_reducible refine (ascii_Alpha.calls k a0 false _ A2.out).mono ?_); rintro e w' ⟨rfl, ⟨nd, rfl⟩⟩; refine ⟨_, rfl, ?_⟩))
  go_ret
  exact ⟨Qs, Q0⟩
def tag_Singleton.f (k : Nat) (a0 : ByteArray) : Option (Bool) := (ascii_Alnum.f k a0).bind fun ai => (if ai = true then (if (a0.size : Int) = 1 then ((ascii_Same.f k a0 (⟨#[120]⟩ : ByteArray)).bind fun ac => (some (!ac))) else (some false)) else (some false))
set_option maxHeartbeats 8000000 in
set_option maxRecDepth 100000 in
theorem tag_Singleton.calls (k : Nat) (a0 : ByteArray) (r : Bool) (w : World) (h : tag_Singleton.f k a0 = some r) :
  Calls Tryz.prog 71 #[.string a0] w fun e w' => e = .returned (.bool r) ∧ Below w.heap.size w w' := by
 have HB := Aside0.mk (Below.refl w.heap.size w)
 have H := h; unfold tag_Singleton.f at H
 clear h
 replace H := Option.bind_eq_some_iff.mp H
 obtain ⟨ai, aa, H⟩ := H
 try dsimp only at H
 have A2 := Aside0.mk aa
 clear aa
 by_cases c3 : ai = true
 ·subst c3
  rw [if_pos rfl] at H
  by_cases c4 : (a0.size : Int) = 1
  ·rw [if_pos c4] at H
   have ak : ((a0.size : Int) == 1) = true := beq_iff_eq.mpr c4
   have al : ((a0.size : Int) != 1) = false := bne_eq_false_iff_eq.mpr c4
   clear c4
   replace H := Option.bind_eq_some_iff.mp H
   obtain ⟨ac, ao, H⟩ := H
   replace H : (some (!ac)) = some r := H
   have A5 := Aside0.mk ao
   clear ao
   obtain rfl := Option.some.inj H
   go_enter Tryz.func71, Tryz.ntmps71
   go_wp2_with (first | ((with_reducible refine gate_callee (f := 49) rfl ?_); refine goesL_ (some 4) rfl rfl Tryz.func49 (by kernel_rfl) rfl #[.string a0] rfl Qm ?_; (with_reducible refine (ascii_Alnum.calls k a0 true _ A2.out).mono ?_); rintro e w' ⟨rfl, ⟨nd, rfl⟩⟩; refine ⟨_, rfl, ?_⟩) | (go_at_call 57; (with_reducible refine (ascii_Same.calls k a0 (⟨#[120]⟩ : ByteArray) ac _ A5.out).mono ?_); rintro e w6 ⟨rfl, hb⟩; have aj := Aside0.mk (below_step (Qw HB.out) hb); clear HB; have HB := aj; clear aj; (try clear hb); (try clear hk)))
   go_ret
   exact ⟨Qe, Qw HB.out⟩
  ·rw [if_neg c4] at H
   have ak : ((a0.size : Int) == 1) = false := beq_eq_false_iff_ne.mpr c4
   have al : ((a0.size : Int) != 1) = true := bne_iff_ne.mpr c4
   obtain rfl := Option.some.inj H
   go_enter Tryz.func71, Tryz.ntmps71
   go_wp2_with (first | ((with_reducible refine gate_callee (f := 49) rfl ?_); refine goesL_ (some 4) rfl rfl Tryz.func49 (by kernel_rfl) rfl #[.string a0] rfl Qm ?_; (with_reducible refine (ascii_Alnum.calls k a0 true _ A2.out).mono ?_); rintro e w' ⟨rfl, ⟨nd, rfl⟩⟩; refine ⟨_, rfl, ?_⟩))
   go_ret
   exact ⟨Qe, Qw HB.out⟩
 ·replace c3 := Bool.eq_false_iff.mpr c3
  subst c3
  rw [if_neg (show ¬ (false = true) by decide)] at H
  obtain rfl := Option.some.inj H
  go_enter Tryz.func71, Tryz.ntmps71
  go_wp2_with (first | ((with_reducible refine gate_callee (f := 49) rfl ?_); refine goesL_ (some 4) rfl rfl Tryz.func49 (by kernel_rfl) rfl #[.string a0] rfl Qm ?_; (with_reducible refine (ascii_Alnum.calls k a0 false _ A2.out).mono ?_); rintro e w' ⟨rfl, ⟨nd, rfl⟩⟩; refine ⟨_, rfl, ?_⟩))
  go_ret
  exact ⟨Qe, Qw HB.out⟩
def strings_Join.f (l0 : List ByteArray) (a1 : ByteArray) : Option ByteArray := if l0.length ≤ 140737488355328 ∧ (Lib.join (l0.map (·.data.toList)) a1.data.toList).length ≤ 140737488355328 then some ⟨(Lib.join (l0.map (·.data.toList)) a1.data.toList).toArray⟩ else none
theorem strings_Join.calls (A0 : Option Addr) (c0 : Nat) (l0 : List ByteArray) (a1 : ByteArray) (r : ByteArray) (w : World) (hr0 : Kd.C Kd.string w A0 l0.length l0) (hc0 : l0.length ≤ c0) (h : strings_Join.f l0 a1 = some r) :
    Calls Tryz.prog 96 #[.slice A0 l0.length c0, .string a1] w fun e w' => e = .returned (.string r) ∧ Below w.heap.size w w' := by
  unfold strings_Join.f at h
  by_cases c : l0.length ≤ 140737488355328 ∧ (Lib.join (l0.map (·.data.toList)) a1.data.toList).length ≤ 140737488355328
  · rw [if_pos c] at h
    obtain rfl := Option.some.inj h
    cases l0 with
    | nil =>
      refine (Tryz.strings_Join_none A0 c0 a1 w).mono ?_
      rintro e w' ⟨rfl, rfl⟩
      exact ⟨rfl, Below.refl _ _⟩
    | cons x xs =>
      have hr := Kd.reads_of_C (enc := Value.string) (d := ByteArray.empty) (h1 := fun _ => rfl) hr0
      obtain ⟨ad, rfl, hcell⟩ := hr.2.2 (by simp)
      have h0 := hcell 0 (by simp)
      have hs : ad.spot = none := by
        cases hs : ad.spot with
        | none => rfl
        | some q =>
          have e0 : ad.add 0 = ad := by simp [Addr.add]
          rw [e0] at h0
          unfold World.cell? at h0
          split at h0
          · simp [hs] at h0
          · simp at h0
      obtain ⟨bk, o, sp⟩ := ad
      obtain rfl : sp = none := hs
      have hlt : bk < w.heap.size := World.block_lt_of_cell? w _ h0
      refine (Tryz.strings_Join bk o c0 (x :: xs) a1 w (fun j y hj => ?_) hlt c.1 hc0 c.2).mono ?_
      · have hl := (List.getElem?_eq_some_iff.1 hj).1
        have := hcell j hl
        rw [List.getD_eq_getElem?_getD, hj] at this
        have e1 : (⟨bk, o, none⟩ : Addr).add j = ⟨bk, o + j, none⟩ := by unfold Addr.add; split <;> simp_all
        rw [e1] at this
        exact this
      · rintro e w' ⟨rfl, hb⟩
        exact ⟨rfl, hb⟩
  · rw [if_neg c] at h; cases h
def split_Join.f (l0 : List ByteArray) : Option (ByteArray) := (strings_Join.f l0 (⟨#[45]⟩ : ByteArray)).bind fun ae => (some ae)
set_option maxHeartbeats 8000000 in
set_option maxRecDepth 100000 in
theorem split_Join.calls (A0 : Option Addr) (c0 : Nat) (l0 : List ByteArray) (r : ByteArray) (w : World) (hr0 : Kd.C Kd.string w A0 l0.length l0) (hc0 : l0.length ≤ c0) (h : split_Join.f l0 = some r) :
  Calls Tryz.prog 73 #[.slice A0 l0.length c0] w fun e w' => e = .returned (.string r) ∧ Below w.heap.size w w' := by
 have ap := Aside0.mk hr0
 have aq := Aside0.mk hc0
 clear hr0 hc0
 have HB := Aside0.mk (Below.refl w.heap.size w)
 have H := h; unfold split_Join.f at H
 clear h
 replace H := Option.bind_eq_some_iff.mp H
 obtain ⟨ae, aa, H⟩ := H
 replace H : (some ae) = some r := H
 have A2 := Aside0.mk aa
 clear aa
 obtain rfl := Option.some.inj H
 go_enter Tryz.func73, Tryz.ntmps73
 go_wp2_with (first | ((with_reducible refine gate_callee (f := 96) rfl ?_); refine goesL_ (some 4) rfl rfl Tryz.func96 (by kernel_rfl) rfl #[.slice A0 l0.length c0, .string (⟨#[45]⟩ : ByteArray)] rfl Qm ?_; (with_reducible refine (strings_Join.calls _ _ l0 (⟨#[45]⟩ : ByteArray) ae _ ?side1 ?side2 A2.out).mono ?_); (case side1 => repeat (first | exact ap.out | (with_reducible refine Kd.C_alloc ?_ _) | (with_reducible refine Kd.C_drewN ?_ _) | (with_reducible refine Kd.C_drew ?_))); (case side2 => exact aq.out); rintro e w3 ⟨rfl, hb⟩; refine ⟨_, rfl, ?_⟩; have aj := Aside0.mk (below_step (Qw HB.out) hb); clear HB; have HB := aj; clear aj; (try clear hb); (try clear hk)))
 go_ret
 exact ⟨Qe, Qw HB.out⟩
end Go.Proofs.YtljadeeoaoiilaaGreatDoor.P
