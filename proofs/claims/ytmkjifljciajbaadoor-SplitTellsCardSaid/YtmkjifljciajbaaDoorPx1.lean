-- Written for this claim by the session's own run of the print, functions proved by hand put in.
import Derived.Test.YtmkjifljciajbaaDoorPx0
namespace Go.Proofs.YtmkjifljciajbaaDoor.P
open Go.RowKit Go.Proofs.YtmkjifljciajbaaDoorW.PrintWords Go.Proofs.YtmkjifljciajbaaDoorW.PrintLast Go.Proofs.YtmkjifljciajbaaDoorW.PrintMore
attribute [local go_sem] max2_int min2_int max_two min_two max_three min_three max_four min_four   -- for this text's walks alone
set_option linter.unusedVariables false
set_option linter.unusedSimpArgs false

/-! ### bytealg_LastIndexByteString: function 35 -/
def bytealg_LastIndexByteString.l0 : Nat → ByteArray → Int → Int → Option (Int)
 | 0, _, _, _ => none
 | k + 1, x0, x1, x5 => if x5 ≥ 0 then (if 0 ≤ x5 then (if x5 < (x0.size : Int) then (if (bt x0 x5) = x1 then (some x5) else (bytealg_LastIndexByteString.l0 k x0 x1 (wrap64 (x5 - 1)))) else (none)) else (none)) else (some (-1))
def bytealg_LastIndexByteString.f (k : Nat) (a0 : ByteArray) (a1 : Int) : Option (Int) := bytealg_LastIndexByteString.l0 k a0 a1 (wrap64 ((a0.size : Int) - 1))
theorem bytealg_LastIndexByteString.mono_l : ∀ k, (∀ y0 y1 y2, LeO (bytealg_LastIndexByteString.l0 k y0 y1 y2) (bytealg_LastIndexByteString.l0 (k + 1) y0 y1 y2))
 | 0 => fun _ _ _ r h => by simp [bytealg_LastIndexByteString.l0] at h
 | k + 1 => by
  have ih0 := bytealg_LastIndexByteString.mono_l k
  ·intro y0 y1 y2
   unfold bytealg_LastIndexByteString.l0
   repeat' first
   | (with_reducible exact ih0 _ _ _)
   | (with_reducible exact LeO.refl _)
   | (with_reducible exact LeO.none _)
   | (with_reducible refine LeO.ite ?_ ?_)
   | (with_reducible refine LeO.bind ?_ (fun _ => ?_))
   | exact ih0 _ _ _
   | exact LeO.none _
   | refine LeO.ite ?_ ?_
   | refine LeO.bind ?_ (fun _ => ?_)
theorem bytealg_LastIndexByteString.mono : ∀ a0 a1 k, LeO (bytealg_LastIndexByteString.f k a0 a1) (bytealg_LastIndexByteString.f (k + 1) a0 a1) := by
 intro a0 a1 k
 have ih0 := bytealg_LastIndexByteString.mono_l k
 unfold bytealg_LastIndexByteString.f
 repeat' first
   | (with_reducible exact ih0 _ _ _)
   | (with_reducible exact LeO.refl _)
   | (with_reducible exact LeO.none _)
   | (with_reducible refine LeO.ite ?_ ?_)
   | (with_reducible refine LeO.bind ?_ (fun _ => ?_))
   | exact ih0 _ _ _
   | exact LeO.none _
   | refine LeO.ite ?_ ?_
   | refine LeO.bind ?_ (fun _ => ?_)
set_option maxHeartbeats 8000000 in
set_option maxRecDepth 100000 in
theorem bytealg_LastIndexByteString.calls (k : Nat) (a0 : ByteArray) (a1 : Int) (r : Int) (w : World) (h : bytealg_LastIndexByteString.f k a0 a1 = some r) :
  Calls Tryd.prog 35 #[.string a0, .int .u8 a1] w fun e w' => e = .returned (.int .i64 r) ∧ Drawn0 w w' := by
 have H : (bytealg_LastIndexByteString.l0 k a0 a1 (wrap64 ((a0.size : Int) - 1))) = some r := h
 clear h
 have H' := Aside0.mk H
 clear H
 go_enter Tryd.func35, Tryd.ntmps35
 go_wp2
 go_loopg [5] k (fun kq v5 w' => ∃ (x5_1 : Int), v5 = .int .i64 x5_1 ∧ Aside0 (bytealg_LastIndexByteString.l0 kq a0 a1 x5_1 = some r) ∧ Aside0 (kq ≤ k) ∧ Drawn0 w w')
 case atStart => exact ⟨(wrap64 ((a0.size : Int) - 1)), (by first | rfl | (simp; done) | (simp [*]; done)), H', ⟨Nat.le_refl _⟩, by repeat (first | exact Drawn0.refl _ | apply Drawn0.step)⟩
 case round =>
  clear H'
  try clear p2
  obtain ⟨x5_1, rfl, HA, HK1, ⟨m1, rfl⟩⟩ := hrel
  cases gk with
  | zero => exact absurd HA.out (by simp [bytealg_LastIndexByteString.l0])
  | succ k1 =>
   have H := HA.out
   clear HA
   simp only [bytealg_LastIndexByteString.l0] at H
   by_cases c3 : x5_1 ≥ 0
   ·rw [if_pos c3] at H
    have c3b0 : decide (0 ≤ x5_1) = true := decide_eq_true c3
    clear c3
    by_cases c4 : 0 ≤ x5_1
    ·rw [if_pos c4] at H
     have c4b0 : decide (0 ≤ x5_1) = true := decide_eq_true c4
     clear c4
     by_cases c5 : x5_1 < (a0.size : Int)
     ·rw [if_pos c5] at H
      have c5b0 : decide (x5_1 < (a0.size : Int)) = true := decide_eq_true c5
      clear c5
      by_cases c7 : (bt a0 x5_1) = a1
      ·rw [if_pos c7] at H
       have c7b0 : ((bt a0 x5_1) == a1) = true := beq_iff_eq.mpr c7
       have c7b1 : ((bt a0 x5_1) != a1) = false := bne_eq_false_iff_eq.mpr c7
       clear c7
       obtain rfl := Option.some.inj H
       have p6 : 0 ≤ (x5_1 : Int) := of_decide_eq_true (by first | (with_reducible assumption) | assumption)
       have q6 : x5_1 < (a0.size : Int) := of_decide_eq_true (by first | (with_reducible assumption) | assumption)
       have hx6 := bt_at a0 x5_1
       replace p6 := eq_true p6
       replace q6 := eq_true q6
       go_wp2
       go_ret
       exact ⟨by first | rfl | (simp; done) | (simp [*]; done), by repeat (first | exact Drawn0.refl _ | apply Drawn0.step)⟩
      ·rw [if_neg c7] at H
       have c7b0 : ((bt a0 x5_1) == a1) = false := beq_eq_false_iff_ne.mpr c7
       have c7b1 : ((bt a0 x5_1) != a1) = true := bne_iff_ne.mpr c7
       have H' := Aside0.mk H
       clear H
       have p6 : 0 ≤ (x5_1 : Int) := of_decide_eq_true (by first | (with_reducible assumption) | assumption)
       have q6 : x5_1 < (a0.size : Int) := of_decide_eq_true (by first | (with_reducible assumption) | assumption)
       have hx6 := bt_at a0 x5_1
       replace p6 := eq_true p6
       replace q6 := eq_true q6
       go_wp2
       go_roundg k1
       case measure => have := HK1.out; omega
       case rel => exact ⟨(wrap64 (x5_1 - 1)), (by first | rfl | (simp; done) | (simp [*]; done)), H', ⟨by have := HK1.out; omega⟩, by repeat (first | exact Drawn0.refl _ | apply Drawn0.step)⟩
     ·rw [if_neg c5] at H
      exact absurd H (by simp)
    ·rw [if_neg c4] at H
     exact absurd H (by simp)
   ·rw [if_neg c3] at H
    have c3b0 : decide (0 ≤ x5_1) = false := decide_eq_false c3
    clear c3
    obtain rfl := Option.some.inj H
    go_wp2
    go_ret
    exact ⟨by first | rfl | (simp; done) | (simp [*]; done), by repeat (first | exact Drawn0.refl _ | apply Drawn0.step)⟩

-- NOT PRINTED: function 48 (bytealg_hashStrRev_string)

-- NOT PRINTED: function 36 (bytealg_LastIndexRabinKarp_string)

/-! ### strings_LastIndex: function 25 (by hand) -/
def strings_LastIndex.f (k : Nat) (a0 : ByteArray) (a1 : ByteArray) : Option (Int) := if a1 = (⟨#[45]⟩ : ByteArray) then bytealg_LastIndexByteString.f k a0 45 else none
theorem strings_LastIndex.mono : ∀ a0 a1 k, LeO (strings_LastIndex.f k a0 a1) (strings_LastIndex.f (k + 1) a0 a1) := by
  intro a0 a1 k
  unfold strings_LastIndex.f
  exact LeO.ite (bytealg_LastIndexByteString.mono a0 45 k) (LeO.none _)
set_option maxHeartbeats 2000000 in
theorem strings_LastIndex.calls (k : Nat) (a0 : ByteArray) (a1 : ByteArray) (r : Int) (w : World) (h : strings_LastIndex.f k a0 a1 = some r) :
    Calls Tryd.prog 25 #[.string a0, .string a1] w fun e w' => e = .returned (.int .i64 r) ∧ Drawn0 w w' := by
  unfold strings_LastIndex.f at h
  by_cases c : a1 = (⟨#[45]⟩ : ByteArray)
  · rw [if_pos c] at h
    subst c
    have H := Lib.hid h
    clear h
    go_enter Tryd.func25, Tryd.ntmps25
    go_wp2_with (go_at_call 35; refine (bytealg_LastIndexByteString.calls k _ _ _ _ H.out).mono ?_; rintro e w' ⟨rfl, hd⟩)
    go_ret
    exact ⟨rfl, hd⟩
  · rw [if_neg c] at h; cases h

/-! ### split_Trim: function 12 -/
def split_Trim.l0 : Nat → ByteArray → Option (ByteArray)
 | 0, _ => none
 | k + 1, x0 => (strings_LastIndex.f k x0 (⟨#[45]⟩ : ByteArray)).bind fun t101 => (if t101 < 0 then (some (⟨#[]⟩ : ByteArray)) else (if 0 ≤ t101 then (if t101 ≤ (x0.size : Int) then ((strings_LastIndex.f k (x0.extract 0 (t101 : Int).toNat) (⟨#[45]⟩ : ByteArray)).bind fun t102 => (if t102 < 0 then (some (x0.extract 0 (t101 : Int).toNat)) else (if (wrap64 ((wrap64 (((x0.extract 0 (t101 : Int).toNat).size : Int) - t102)) - 1)) = 1 then (split_Trim.l0 k (x0.extract 0 (t101 : Int).toNat)) else (some (x0.extract 0 (t101 : Int).toNat))))) else (none)) else (none)))
def split_Trim.f (k : Nat) (a0 : ByteArray) : Option (ByteArray) := split_Trim.l0 k a0
theorem split_Trim.mono_l : ∀ k, (∀ y0, LeO (split_Trim.l0 k y0) (split_Trim.l0 (k + 1) y0))
 | 0 => fun _ r h => by simp [split_Trim.l0] at h
 | k + 1 => by
  have ih0 := split_Trim.mono_l k
  ·intro y0
   unfold split_Trim.l0
   repeat' first
   | (with_reducible exact ih0 _)
   | (with_reducible exact strings_LastIndex.mono _ _ _)
   | (with_reducible exact LeO.refl _)
   | (with_reducible exact LeO.none _)
   | (with_reducible refine LeO.ite ?_ ?_)
   | (with_reducible refine LeO.bind ?_ (fun _ => ?_))
   | exact ih0 _
   | exact strings_LastIndex.mono _ _ _
   | exact LeO.none _
   | refine LeO.ite ?_ ?_
   | refine LeO.bind ?_ (fun _ => ?_)
theorem split_Trim.mono : ∀ a0 k, LeO (split_Trim.f k a0) (split_Trim.f (k + 1) a0) := by
 intro a0 k
 have ih0 := split_Trim.mono_l k
 unfold split_Trim.f
 repeat' first
   | (with_reducible exact ih0 _)
   | (with_reducible exact strings_LastIndex.mono _ _ _)
   | (with_reducible exact LeO.refl _)
   | (with_reducible exact LeO.none _)
   | (with_reducible refine LeO.ite ?_ ?_)
   | (with_reducible refine LeO.bind ?_ (fun _ => ?_))
   | exact ih0 _
   | exact strings_LastIndex.mono _ _ _
   | exact LeO.none _
   | refine LeO.ite ?_ ?_
   | refine LeO.bind ?_ (fun _ => ?_)
set_option maxHeartbeats 8000000 in
set_option maxRecDepth 100000 in
theorem split_Trim.calls (k : Nat) (a0 : ByteArray) (r : ByteArray) (w : World) (h : split_Trim.f k a0 = some r) :
  Calls Tryd.prog 12 #[.string a0] w fun e w' => e = .returned (.string r) ∧ Drawn0 w w' := by
 have H : (split_Trim.l0 k a0) = some r := h
 clear h
 have H' := Aside0.mk H
 clear H
 go_enter Tryd.func12, Tryd.ntmps12
 go_wp2
 go_loopg [0] k (fun kq v0 w' => ∃ (x0_1 : ByteArray), v0 = .string x0_1 ∧ Aside0 (split_Trim.l0 kq x0_1 = some r) ∧ Aside0 (kq ≤ k) ∧ Drawn0 w w')
 case atStart => exact ⟨(a0), (by first | rfl | (simp; done) | (simp [*]; done)), H', ⟨Nat.le_refl _⟩, by repeat (first | exact Drawn0.refl _ | apply Drawn0.step)⟩
 case round =>
  clear H'
  try clear c1
  obtain ⟨x0_1, rfl, HA, HK1, ⟨m1, rfl⟩⟩ := hrel
  cases gk with
  | zero => exact absurd HA.out (by simp [split_Trim.l0])
  | succ k1 =>
   have H := HA.out
   clear HA
   simp only [split_Trim.l0] at H
   replace H := Option.bind_eq_some_iff.mp H
   obtain ⟨t101, A20, H⟩ := H
   replace H : (if t101 < 0 then (some (⟨#[]⟩ : ByteArray)) else (if 0 ≤ t101 then (if t101 ≤ (x0_1.size : Int) then ((strings_LastIndex.f k1 (x0_1.extract 0 (t101 : Int).toNat) (⟨#[45]⟩ : ByteArray)).bind fun t102 => (if t102 < 0 then (some (x0_1.extract 0 (t101 : Int).toNat)) else (if (wrap64 ((wrap64 (((x0_1.extract 0 (t101 : Int).toNat).size : Int) - t102)) - 1)) = 1 then (split_Trim.l0 k1 (x0_1.extract 0 (t101 : Int).toNat)) else (some (x0_1.extract 0 (t101 : Int).toNat))))) else (none)) else (none))) = some r := H
   have A2 := Aside0.mk A20
   clear A20
   by_cases c3 : t101 < 0
   ·rw [if_pos c3] at H
    have c3b0 : decide (t101 < 0) = true := decide_eq_true c3
    clear c3
    obtain rfl := Option.some.inj H
    go_wp2_with (first | ((with_reducible refine gate_callee (f := 25) rfl ?_); refine goesL_ (some 5) rfl rfl Tryd.func25 (by kernel_rfl) rfl #[.string x0_1, .string (⟨#[45]⟩ : ByteArray)] rfl (by (try simp only [List.map_toArray, List.map_cons, List.map_nil]); first | done | rfl | (simp only [List.length_drop, List.length_take]; rfl)) ?_; (with_reducible refine (strings_LastIndex.calls k1 x0_1 (⟨#[45]⟩ : ByteArray) t101 _ A2.out).mono ?_); rintro e w' ⟨rfl, ⟨nd, rfl⟩⟩; refine ⟨_, rfl, ?_⟩))
    go_ret
    exact ⟨by first | rfl | (simp; done) | (simp [*]; done), by repeat (first | exact Drawn0.refl _ | apply Drawn0.step)⟩
   ·rw [if_neg c3] at H
    have c3b0 : decide (t101 < 0) = false := decide_eq_false c3
    clear c3
    by_cases c4 : 0 ≤ t101
    ·rw [if_pos c4] at H
     have c4b0 := eq_true c4
     have c4b1 : decide (0 ≤ t101) = true := decide_eq_true c4
     clear c4
     by_cases c5 : t101 ≤ (x0_1.size : Int)
     ·rw [if_pos c5] at H
      have c5b0 := eq_true c5
      have c5b1 : decide (t101 ≤ (x0_1.size : Int)) = true := decide_eq_true c5
      clear c5
      replace H := Option.bind_eq_some_iff.mp H
      obtain ⟨t102, A60, H⟩ := H
      replace H : (if t102 < 0 then (some (x0_1.extract 0 (t101 : Int).toNat)) else (if (wrap64 ((wrap64 (((x0_1.extract 0 (t101 : Int).toNat).size : Int) - t102)) - 1)) = 1 then (split_Trim.l0 k1 (x0_1.extract 0 (t101 : Int).toNat)) else (some (x0_1.extract 0 (t101 : Int).toNat)))) = some r := H
      have A6 := Aside0.mk A60
      clear A60
      by_cases c7 : t102 < 0
      ·rw [if_pos c7] at H
       have c7b0 : decide (t102 < 0) = true := decide_eq_true c7
       clear c7
       obtain rfl := Option.some.inj H
       go_wp2_with (first | ((with_reducible refine gate_callee (f := 25) rfl ?_); refine goesL_ (some 5) rfl rfl Tryd.func25 (by kernel_rfl) rfl #[.string x0_1, .string (⟨#[45]⟩ : ByteArray)] rfl (by (try simp only [List.map_toArray, List.map_cons, List.map_nil]); first | done | rfl | (simp only [List.length_drop, List.length_take]; rfl)) ?_; (with_reducible refine (strings_LastIndex.calls k1 x0_1 (⟨#[45]⟩ : ByteArray) t101 _ A2.out).mono ?_); rintro e w' ⟨rfl, ⟨nd, rfl⟩⟩; refine ⟨_, rfl, ?_⟩) | ((with_reducible refine gate_callee (f := 25) rfl ?_); refine goesL_ (some 12) rfl rfl Tryd.func25 (by kernel_rfl) rfl #[.string (x0_1.extract 0 (t101 : Int).toNat), .string (⟨#[45]⟩ : ByteArray)] rfl (by (try simp only [List.map_toArray, List.map_cons, List.map_nil]); first | done | rfl | (simp only [List.length_drop, List.length_take]; rfl)) ?_; (with_reducible refine (strings_LastIndex.calls k1 (x0_1.extract 0 (t101 : Int).toNat) (⟨#[45]⟩ : ByteArray) t102 _ A6.out).mono ?_); rintro e w' ⟨rfl, ⟨nd, rfl⟩⟩; refine ⟨_, rfl, ?_⟩))
       go_ret
       exact ⟨by first | rfl | (simp; done) | (simp [*]; done), by repeat (first | exact Drawn0.refl _ | apply Drawn0.step)⟩
      ·rw [if_neg c7] at H
       have c7b0 : decide (t102 < 0) = false := decide_eq_false c7
       clear c7
       by_cases c8 : (wrap64 ((wrap64 (((x0_1.extract 0 (t101 : Int).toNat).size : Int) - t102)) - 1)) = 1
       ·rw [if_pos c8] at H
        have c8b0 : ((wrap64 ((wrap64 (((x0_1.extract 0 (t101 : Int).toNat).size : Int) - t102)) - 1)) == 1) = true := beq_iff_eq.mpr c8
        have c8b1 : ((wrap64 ((wrap64 (((x0_1.extract 0 (t101 : Int).toNat).size : Int) - t102)) - 1)) != 1) = false := bne_eq_false_iff_eq.mpr c8
        have sz_ : (((x0_1.extract 0 (t101 : Int).toNat).size : Int)) = max t101 0 := by have q1_ := of_eq_true c4b0; have q2_ := of_eq_true c5b0; rw [ByteArray.size_extract]; omega
        rw [sz_] at c8b0 c8b1
        clear sz_
        clear c8
        have H' := Aside0.mk H
        clear H
        go_wp2_with (first | ((with_reducible refine gate_callee (f := 25) rfl ?_); refine goesL_ (some 5) rfl rfl Tryd.func25 (by kernel_rfl) rfl #[.string x0_1, .string (⟨#[45]⟩ : ByteArray)] rfl (by (try simp only [List.map_toArray, List.map_cons, List.map_nil]); first | done | rfl | (simp only [List.length_drop, List.length_take]; rfl)) ?_; (with_reducible refine (strings_LastIndex.calls k1 x0_1 (⟨#[45]⟩ : ByteArray) t101 _ A2.out).mono ?_); rintro e w' ⟨rfl, ⟨nd, rfl⟩⟩; refine ⟨_, rfl, ?_⟩) | ((with_reducible refine gate_callee (f := 25) rfl ?_); refine goesL_ (some 12) rfl rfl Tryd.func25 (by kernel_rfl) rfl #[.string (x0_1.extract 0 (t101 : Int).toNat), .string (⟨#[45]⟩ : ByteArray)] rfl (by (try simp only [List.map_toArray, List.map_cons, List.map_nil]); first | done | rfl | (simp only [List.length_drop, List.length_take]; rfl)) ?_; (with_reducible refine (strings_LastIndex.calls k1 (x0_1.extract 0 (t101 : Int).toNat) (⟨#[45]⟩ : ByteArray) t102 _ A6.out).mono ?_); rintro e w' ⟨rfl, ⟨nd, rfl⟩⟩; refine ⟨_, rfl, ?_⟩))
        go_roundg k1
        case measure => have := HK1.out; omega
        case rel => exact ⟨(x0_1.extract 0 (t101 : Int).toNat), (by first | rfl | (simp; done) | (simp [*]; done)), H', ⟨by have := HK1.out; omega⟩, by repeat (first | exact Drawn0.refl _ | apply Drawn0.step)⟩
       ·rw [if_neg c8] at H
        have c8b0 : ((wrap64 ((wrap64 (((x0_1.extract 0 (t101 : Int).toNat).size : Int) - t102)) - 1)) == 1) = false := beq_eq_false_iff_ne.mpr c8
        have c8b1 : ((wrap64 ((wrap64 (((x0_1.extract 0 (t101 : Int).toNat).size : Int) - t102)) - 1)) != 1) = true := bne_iff_ne.mpr c8
        have sz_ : (((x0_1.extract 0 (t101 : Int).toNat).size : Int)) = max t101 0 := by have q1_ := of_eq_true c4b0; have q2_ := of_eq_true c5b0; rw [ByteArray.size_extract]; omega
        rw [sz_] at c8b0 c8b1
        clear sz_
        obtain rfl := Option.some.inj H
        go_wp2_with (first | ((with_reducible refine gate_callee (f := 25) rfl ?_); refine goesL_ (some 5) rfl rfl Tryd.func25 (by kernel_rfl) rfl #[.string x0_1, .string (⟨#[45]⟩ : ByteArray)] rfl (by (try simp only [List.map_toArray, List.map_cons, List.map_nil]); first | done | rfl | (simp only [List.length_drop, List.length_take]; rfl)) ?_; (with_reducible refine (strings_LastIndex.calls k1 x0_1 (⟨#[45]⟩ : ByteArray) t101 _ A2.out).mono ?_); rintro e w' ⟨rfl, ⟨nd, rfl⟩⟩; refine ⟨_, rfl, ?_⟩) | ((with_reducible refine gate_callee (f := 25) rfl ?_); refine goesL_ (some 12) rfl rfl Tryd.func25 (by kernel_rfl) rfl #[.string (x0_1.extract 0 (t101 : Int).toNat), .string (⟨#[45]⟩ : ByteArray)] rfl (by (try simp only [List.map_toArray, List.map_cons, List.map_nil]); first | done | rfl | (simp only [List.length_drop, List.length_take]; rfl)) ?_; (with_reducible refine (strings_LastIndex.calls k1 (x0_1.extract 0 (t101 : Int).toNat) (⟨#[45]⟩ : ByteArray) t102 _ A6.out).mono ?_); rintro e w' ⟨rfl, ⟨nd, rfl⟩⟩; refine ⟨_, rfl, ?_⟩))
        go_ret
        exact ⟨by first | rfl | (simp; done) | (simp [*]; done), by repeat (first | exact Drawn0.refl _ | apply Drawn0.step)⟩
     ·rw [if_neg c5] at H
      exact absurd H (by simp)
    ·rw [if_neg c4] at H
     exact absurd H (by simp)

/-! ### split_Each: function 13 (by hand) -/
-- (its contract stands in Hand1)

/-! ### ascii_kind: function 53 -/
mutual
def ascii_kind.j0 : Nat → Int → Bool → Option (Int)
 | 0, _, _ => none
 | k + 1, x0, x3 => if x3 = true then (some 1) else (if x0 ≥ 97 then (ascii_kind.j1 k x0 (decide (x0 ≤ 122))) else (ascii_kind.j1 k x0 false))
def ascii_kind.j1 : Nat → Int → Bool → Option (Int)
 | 0, _, _ => none
 | k + 1, x0, x10 => if x10 = true then (some 1) else (if x0 ≥ 48 then (if x0 ≤ 57 then (some 2) else (some 0)) else (some 0))
end
def ascii_kind.f (k : Nat) (a0 : Int) : Option (Int) := if a0 ≥ 65 then (ascii_kind.j0 k a0 (decide (a0 ≤ 90))) else (ascii_kind.j0 k a0 false)
theorem ascii_kind.mono_l : ∀ k, (∀ y0 y1, LeO (ascii_kind.j0 k y0 y1) (ascii_kind.j0 (k + 1) y0 y1)) ∧ (∀ y0 y1, LeO (ascii_kind.j1 k y0 y1) (ascii_kind.j1 (k + 1) y0 y1))
 | 0 => ⟨fun _ _ r h => by simp [ascii_kind.j0] at h, fun _ _ r h => by simp [ascii_kind.j1] at h⟩
 | k + 1 => by
  obtain ⟨ih0, ih1⟩ := ascii_kind.mono_l k
  refine ⟨?_, ?_⟩
  ·intro y0 y1
   unfold ascii_kind.j0
   repeat' first
   | (with_reducible exact ih0 _ _)
   | (with_reducible exact ih1 _ _)
   | (with_reducible exact LeO.refl _)
   | (with_reducible exact LeO.none _)
   | (with_reducible refine LeO.ite ?_ ?_)
   | (with_reducible refine LeO.bind ?_ (fun _ => ?_))
   | exact ih0 _ _
   | exact ih1 _ _
   | exact LeO.none _
   | refine LeO.ite ?_ ?_
   | refine LeO.bind ?_ (fun _ => ?_)
  ·intro y0 y1
   unfold ascii_kind.j1
   repeat' first
   | (with_reducible exact ih0 _ _)
   | (with_reducible exact ih1 _ _)
   | (with_reducible exact LeO.refl _)
   | (with_reducible exact LeO.none _)
   | (with_reducible refine LeO.ite ?_ ?_)
   | (with_reducible refine LeO.bind ?_ (fun _ => ?_))
   | exact ih0 _ _
   | exact ih1 _ _
   | exact LeO.none _
   | refine LeO.ite ?_ ?_
   | refine LeO.bind ?_ (fun _ => ?_)
theorem ascii_kind.mono : ∀ a0 k, LeO (ascii_kind.f k a0) (ascii_kind.f (k + 1) a0) := by
 intro a0 k
 obtain ⟨ih0, ih1⟩ := ascii_kind.mono_l k
 unfold ascii_kind.f
 repeat' first
   | (with_reducible exact ih0 _ _)
   | (with_reducible exact ih1 _ _)
   | (with_reducible exact LeO.refl _)
   | (with_reducible exact LeO.none _)
   | (with_reducible refine LeO.ite ?_ ?_)
   | (with_reducible refine LeO.bind ?_ (fun _ => ?_))
   | exact ih0 _ _
   | exact ih1 _ _
   | exact LeO.none _
   | refine LeO.ite ?_ ?_
   | refine LeO.bind ?_ (fun _ => ?_)
set_option maxHeartbeats 8000000 in
set_option maxRecDepth 100000 in
theorem ascii_kind.calls (k : Nat) (a0 : Int) (r : Int) (w : World) (h : ascii_kind.f k a0 = some r) :
  Calls Tryd.prog 53 #[.int .u8 a0] w fun e w' => e = .returned (.int .i64 r) ∧ Drawn0 w w' := by
 have H : (if a0 ≥ 65 then (ascii_kind.j0 k a0 (decide (a0 ≤ 90))) else (ascii_kind.j0 k a0 false)) = some r := h
 clear h
 have HC2 := Aside0.mk H
 clear H
 go_enter Tryd.func53, Tryd.ntmps53
 go_upto_region 1 with (fail)
 go_cut [3] (fun v3 wc => ∃ (kq : Nat) (x3_1 : Bool), v3 = .bool x3_1 ∧ Aside0 (ascii_kind.j0 kq a0 x3_1 = some r) ∧ Aside0 (kq ≤ k) ∧ Drawn0 w wc)
 case first =>
  have H := HC2.out
  clear HC2
  by_cases c3 : a0 ≥ 65
  ·rw [if_pos c3] at H
   have c3b0 : decide (65 ≤ a0) = true := decide_eq_true c3
   clear c3
   (first | rw [c3b0] | (simp only [i64_w, i32_w]; rw [c3b0]) | skip)
   have H' := Aside0.mk H
   clear H
   go_wp2
   go_meet
   case rel => exact ⟨_, (decide (a0 ≤ 90)), (by first | rfl | (simp; done) | (simp [*]; done)), H', ⟨by first | omega | exact Nat.le_refl _⟩, by repeat (first | exact Drawn0.refl _ | apply Drawn0.step)⟩
  ·rw [if_neg c3] at H
   have c3b0 : decide (65 ≤ a0) = false := decide_eq_false c3
   clear c3
   (first | rw [c3b0] | (simp only [i64_w, i32_w]; rw [c3b0]) | skip)
   have H' := Aside0.mk H
   clear H
   go_wp2
   go_meet
   case rel => exact ⟨_, (false), (by first | rfl | (simp; done) | (simp [*]; done)), H', ⟨by first | omega | exact Nat.le_refl _⟩, by repeat (first | exact Drawn0.refl _ | apply Drawn0.step)⟩
 case rest =>
  clear HC2
  try clear p2
  try clear c3
  try clear c3b0
  obtain ⟨kq, x3_1, rfl, HA, HJ1, ⟨mc1, rfl⟩⟩ := hcut
  cases kq with
  | zero => exact absurd HA.out (by simp [ascii_kind.j0])
  | succ kj1 =>
   have H := HA.out
   clear HA
   simp only [ascii_kind.j0] at H
   by_cases c4 : x3_1 = true
   ·subst c4
    have H1 : (some 1) = some r := by rw [if_pos rfl] at H; exact H
    clear H
    have H := H1
    clear H1
    obtain rfl := Option.some.inj H
    go_wp2
    go_ret
    exact ⟨by first | rfl | (simp; done) | (simp [*]; done), by repeat (first | exact Drawn0.refl _ | apply Drawn0.step)⟩
   ·replace c4 := Bool.eq_false_iff.mpr c4
    subst c4
    have H1 : (if a0 ≥ 97 then (ascii_kind.j1 kj1 a0 (decide (a0 ≤ 122))) else (ascii_kind.j1 kj1 a0 false)) = some r := by rw [if_neg (show ¬ (false = true) by decide)] at H; exact H
    clear H
    have H := H1
    clear H1
    have HC5 := Aside0.mk H
    clear H
    go_upto_region 2 with (fail)
    go_cut [10] (fun v10 wc => ∃ (kq : Nat) (x10_4 : Bool), v10 = .bool x10_4 ∧ Aside0 (ascii_kind.j1 kq a0 x10_4 = some r) ∧ Aside0 (kq ≤ kj1) ∧ Drawn0 w wc)
    case first =>
     have H := HC5.out
     clear HC5
     by_cases c6 : a0 ≥ 97
     ·rw [if_pos c6] at H
      have c6b0 : decide (97 ≤ a0) = true := decide_eq_true c6
      clear c6
      (first | rw [c6b0] | (simp only [i64_w, i32_w]; rw [c6b0]) | skip)
      have H' := Aside0.mk H
      clear H
      go_wp2
      go_meet
      case rel => exact ⟨_, (decide (a0 ≤ 122)), (by first | rfl | (simp; done) | (simp [*]; done)), H', ⟨by have := HJ1.out; first | omega | exact Nat.le_refl _⟩, by repeat (first | exact Drawn0.refl _ | apply Drawn0.step)⟩
     ·rw [if_neg c6] at H
      have c6b0 : decide (97 ≤ a0) = false := decide_eq_false c6
      clear c6
      (first | rw [c6b0] | (simp only [i64_w, i32_w]; rw [c6b0]) | skip)
      have H' := Aside0.mk H
      clear H
      go_wp2
      go_meet
      case rel => exact ⟨_, (false), (by first | rfl | (simp; done) | (simp [*]; done)), H', ⟨by have := HJ1.out; first | omega | exact Nat.le_refl _⟩, by repeat (first | exact Drawn0.refl _ | apply Drawn0.step)⟩
    case rest =>
     clear HC5
     try clear c1
     try clear p2
     try clear c3
     try clear c3b0
     try clear c4
     try clear c5
     try clear c6
     try clear c6b0
     try clear p2
     obtain ⟨kq, x10_4, rfl, HA, HJ4, ⟨mc4, rfl⟩⟩ := hcut
     cases kq with
     | zero => exact absurd HA.out (by simp [ascii_kind.j1])
     | succ kj4 =>
      have H := HA.out
      clear HA
      simp only [ascii_kind.j1] at H
      by_cases c7 : x10_4 = true
      ·subst c7
       have H1 : (some 1) = some r := by rw [if_pos rfl] at H; exact H
       clear H
       have H := H1
       clear H1
       obtain rfl := Option.some.inj H
       go_wp2
       go_ret
       exact ⟨by first | rfl | (simp; done) | (simp [*]; done), by repeat (first | exact Drawn0.refl _ | apply Drawn0.step)⟩
      ·replace c7 := Bool.eq_false_iff.mpr c7
       subst c7
       have H1 : (if a0 ≥ 48 then (if a0 ≤ 57 then (some 2) else (some 0)) else (some 0)) = some r := by rw [if_neg (show ¬ (false = true) by decide)] at H; exact H
       clear H
       have H := H1
       clear H1
       by_cases c8 : a0 ≥ 48
       ·rw [if_pos c8] at H
        have c8b0 : decide (48 ≤ a0) = true := decide_eq_true c8
        clear c8
        by_cases c9 : a0 ≤ 57
        ·rw [if_pos c9] at H
         have c9b0 : decide (a0 ≤ 57) = true := decide_eq_true c9
         clear c9
         obtain rfl := Option.some.inj H
         go_wp2
         go_ret
         exact ⟨by first | rfl | (simp; done) | (simp [*]; done), by repeat (first | exact Drawn0.refl _ | apply Drawn0.step)⟩
        ·rw [if_neg c9] at H
         have c9b0 : decide (a0 ≤ 57) = false := decide_eq_false c9
         clear c9
         obtain rfl := Option.some.inj H
         go_wp2
         go_ret
         exact ⟨by first | rfl | (simp; done) | (simp [*]; done), by repeat (first | exact Drawn0.refl _ | apply Drawn0.step)⟩
       ·rw [if_neg c8] at H
        have c8b0 : decide (48 ≤ a0) = false := decide_eq_false c8
        clear c8
        obtain rfl := Option.some.inj H
        go_wp2
        go_ret
        exact ⟨by first | rfl | (simp; done) | (simp [*]; done), by repeat (first | exact Drawn0.refl _ | apply Drawn0.step)⟩

/-! ### ascii_Class: function 38 -/
def ascii_Class.l0 : Nat → ByteArray → Int → Int → Int → Option (Int)
 | 0, _, _, _, _ => none
 | k + 1, x0, x3, x7, x8 => if x8 < x7 then (if 0 ≤ x8 then (if x8 < (x0.size : Int) then ((ascii_kind.f k (bt x0 x8)).bind fun t103 => (if t103 = 0 then (some 0) else (ascii_Class.l0 k x0 (Go.bits .or .i64 x3 t103) x7 (wrap64 (x8 + 1))))) else (none)) else (none)) else (some x3)
def ascii_Class.f (k : Nat) (a0 : ByteArray) : Option (Int) := ascii_Class.l0 k a0 0 (a0.size : Int) 0
theorem ascii_Class.mono_l : ∀ k, (∀ y0 y1 y2 y3, LeO (ascii_Class.l0 k y0 y1 y2 y3) (ascii_Class.l0 (k + 1) y0 y1 y2 y3))
 | 0 => fun _ _ _ _ r h => by simp [ascii_Class.l0] at h
 | k + 1 => by
  have ih0 := ascii_Class.mono_l k
  ·intro y0 y1 y2 y3
   unfold ascii_Class.l0
   repeat' first
   | (with_reducible exact ih0 _ _ _ _)
   | (with_reducible exact ascii_kind.mono _ _)
   | (with_reducible exact LeO.refl _)
   | (with_reducible exact LeO.none _)
   | (with_reducible refine LeO.ite ?_ ?_)
   | (with_reducible refine LeO.bind ?_ (fun _ => ?_))
   | exact ih0 _ _ _ _
   | exact ascii_kind.mono _ _
   | exact LeO.none _
   | refine LeO.ite ?_ ?_
   | refine LeO.bind ?_ (fun _ => ?_)
theorem ascii_Class.mono : ∀ a0 k, LeO (ascii_Class.f k a0) (ascii_Class.f (k + 1) a0) := by
 intro a0 k
 have ih0 := ascii_Class.mono_l k
 unfold ascii_Class.f
 repeat' first
   | (with_reducible exact ih0 _ _ _ _)
   | (with_reducible exact ascii_kind.mono _ _)
   | (with_reducible exact LeO.refl _)
   | (with_reducible exact LeO.none _)
   | (with_reducible refine LeO.ite ?_ ?_)
   | (with_reducible refine LeO.bind ?_ (fun _ => ?_))
   | exact ih0 _ _ _ _
   | exact ascii_kind.mono _ _
   | exact LeO.none _
   | refine LeO.ite ?_ ?_
   | refine LeO.bind ?_ (fun _ => ?_)
set_option maxHeartbeats 8000000 in
set_option maxRecDepth 100000 in
theorem ascii_Class.calls (k : Nat) (a0 : ByteArray) (r : Int) (w : World) (h : ascii_Class.f k a0 = some r) :
  Calls Tryd.prog 38 #[.string a0] w fun e w' => e = .returned (.int .i64 r) ∧ Drawn0 w w' := by
 have H : (ascii_Class.l0 k a0 0 (a0.size : Int) 0) = some r := h
 clear h
 have H' := Aside0.mk H
 clear H
 go_enter Tryd.func38, Tryd.ntmps38
 go_wp2
 go_loopg [3, 8] k (fun kq v3 v8 w' => ∃ (x3_1 : Int) (x8_1 : Int), v3 = .int .i64 x3_1 ∧ v8 = .int .i64 x8_1 ∧ Aside0 (ascii_Class.l0 kq a0 x3_1 (a0.size : Int) x8_1 = some r) ∧ Aside0 (kq ≤ k) ∧ Drawn0 w w')
 case atStart => exact ⟨(0), (0), (by first | rfl | (simp; done) | (simp [*]; done)), (by first | rfl | (simp; done) | (simp [*]; done)), H', ⟨Nat.le_refl _⟩, by repeat (first | exact Drawn0.refl _ | apply Drawn0.step)⟩
 case round =>
  clear H'
  obtain ⟨x3_1, x8_1, rfl, rfl, HA, HK1, ⟨m1, rfl⟩⟩ := hrel
  cases gk with
  | zero => exact absurd HA.out (by simp [ascii_Class.l0])
  | succ k1 =>
   have H := HA.out
   clear HA
   simp only [ascii_Class.l0] at H
   by_cases c2 : x8_1 < (a0.size : Int)
   ·rw [if_pos c2] at H
    have c2b0 : decide (x8_1 < (a0.size : Int)) = true := decide_eq_true c2
    clear c2
    by_cases c3 : 0 ≤ x8_1
    ·rw [if_pos c3] at H
     have c3b0 : decide (0 ≤ x8_1) = true := decide_eq_true c3
     clear c3
     by_cases c4 : x8_1 < (a0.size : Int)
     ·rw [if_pos c4] at H
      have c4b0 : decide (x8_1 < (a0.size : Int)) = true := decide_eq_true c4
      clear c4
      replace H := Option.bind_eq_some_iff.mp H
      obtain ⟨t103, A60, H⟩ := H
      replace H : (if t103 = 0 then (some 0) else (ascii_Class.l0 k1 a0 (Go.bits .or .i64 x3_1 t103) (a0.size : Int) (wrap64 (x8_1 + 1)))) = some r := H
      have A6 := Aside0.mk A60
      clear A60
      by_cases c7 : t103 = 0
      ·rw [if_pos c7] at H
       have c7b0 : (t103 == 0) = true := beq_iff_eq.mpr c7
       have c7b1 : (t103 != 0) = false := bne_eq_false_iff_eq.mpr c7
       clear c7
       obtain rfl := Option.some.inj H
       have p5 : 0 ≤ (x8_1 : Int) := of_decide_eq_true (by first | (with_reducible assumption) | assumption)
       have q5 : x8_1 < (a0.size : Int) := of_decide_eq_true (by first | (with_reducible assumption) | assumption)
       have hx5 := bt_at a0 x8_1
       replace p5 := eq_true p5
       replace q5 := eq_true q5
       go_wp2_with (first | ((with_reducible refine gate_callee (f := 53) rfl ?_); refine goesL_ (some 14) rfl rfl Tryd.func53 (by kernel_rfl) rfl #[.int .u8 (bt a0 x8_1)] rfl (by (try simp only [List.map_toArray, List.map_cons, List.map_nil]); first | done | rfl | (simp only [List.length_drop, List.length_take]; rfl)) ?_; (with_reducible refine (ascii_kind.calls k1 (bt a0 x8_1) t103 _ A6.out).mono ?_); rintro e w' ⟨rfl, ⟨nd, rfl⟩⟩; refine ⟨_, rfl, ?_⟩))
       go_ret
       exact ⟨by first | rfl | (simp; done) | (simp [*]; done), by repeat (first | exact Drawn0.refl _ | apply Drawn0.step)⟩
      ·rw [if_neg c7] at H
       have c7b0 : (t103 == 0) = false := beq_eq_false_iff_ne.mpr c7
       have c7b1 : (t103 != 0) = true := bne_iff_ne.mpr c7
       have H' := Aside0.mk H
       clear H
       have p5 : 0 ≤ (x8_1 : Int) := of_decide_eq_true (by first | (with_reducible assumption) | assumption)
       have q5 : x8_1 < (a0.size : Int) := of_decide_eq_true (by first | (with_reducible assumption) | assumption)
       have hx5 := bt_at a0 x8_1
       replace p5 := eq_true p5
       replace q5 := eq_true q5
       go_wp2_with (first | ((with_reducible refine gate_callee (f := 53) rfl ?_); refine goesL_ (some 14) rfl rfl Tryd.func53 (by kernel_rfl) rfl #[.int .u8 (bt a0 x8_1)] rfl (by (try simp only [List.map_toArray, List.map_cons, List.map_nil]); first | done | rfl | (simp only [List.length_drop, List.length_take]; rfl)) ?_; (with_reducible refine (ascii_kind.calls k1 (bt a0 x8_1) t103 _ A6.out).mono ?_); rintro e w' ⟨rfl, ⟨nd, rfl⟩⟩; refine ⟨_, rfl, ?_⟩))
       go_roundg k1
       case measure => have := HK1.out; omega
       case rel => exact ⟨(Go.bits .or .i64 x3_1 t103), (wrap64 (x8_1 + 1)), (by first | rfl | (simp; done) | (simp [*]; done)), (by first | rfl | (simp; done) | (simp [*]; done)), H', ⟨by have := HK1.out; omega⟩, by repeat (first | exact Drawn0.refl _ | apply Drawn0.step)⟩
     ·rw [if_neg c4] at H
      exact absurd H (by simp)
    ·rw [if_neg c3] at H
     exact absurd H (by simp)
   ·rw [if_neg c2] at H
    have c2b0 : decide (x8_1 < (a0.size : Int)) = false := decide_eq_false c2
    clear c2
    obtain rfl := Option.some.inj H
    go_wp2
    go_ret
    exact ⟨by first | rfl | (simp; done) | (simp [*]; done), by repeat (first | exact Drawn0.refl _ | apply Drawn0.step)⟩

/-! ### ascii_Alnum: function 28 -/
def ascii_Alnum.f (k : Nat) (a0 : ByteArray) : Option (Bool) := (ascii_Class.f k a0).bind fun t104 => (some (t104 != 0))
theorem ascii_Alnum.mono : ∀ a0 k, LeO (ascii_Alnum.f k a0) (ascii_Alnum.f (k + 1) a0) := by
 intro a0 k
 unfold ascii_Alnum.f
 repeat' first
   | (with_reducible exact ascii_Class.mono _ _)
   | (with_reducible exact LeO.refl _)
   | (with_reducible exact LeO.none _)
   | (with_reducible refine LeO.ite ?_ ?_)
   | (with_reducible refine LeO.bind ?_ (fun _ => ?_))
   | exact ascii_Class.mono _ _
   | exact LeO.none _
   | refine LeO.ite ?_ ?_
   | refine LeO.bind ?_ (fun _ => ?_)
set_option maxHeartbeats 8000000 in
set_option maxRecDepth 100000 in
theorem ascii_Alnum.calls (k : Nat) (a0 : ByteArray) (r : Bool) (w : World) (h : ascii_Alnum.f k a0 = some r) :
  Calls Tryd.prog 28 #[.string a0] w fun e w' => e = .returned (.bool r) ∧ Drawn0 w w' := by
 have H : ((ascii_Class.f k a0).bind fun t104 => (some (t104 != 0))) = some r := h
 clear h
 replace H := Option.bind_eq_some_iff.mp H
 obtain ⟨t104, A20, H⟩ := H
 replace H : (some (t104 != 0)) = some r := H
 have A2 := Aside0.mk A20
 clear A20
 obtain rfl := Option.some.inj H
 go_enter Tryd.func28, Tryd.ntmps28
 go_wp2_with (first | ((with_reducible refine gate_callee (f := 38) rfl ?_); refine goesL_ (some 4) rfl rfl Tryd.func38 (by kernel_rfl) rfl #[.string a0] rfl (by (try simp only [List.map_toArray, List.map_cons, List.map_nil]); first | done | rfl | (simp only [List.length_drop, List.length_take]; rfl)) ?_; (with_reducible refine (ascii_Class.calls k a0 t104 _ A2.out).mono ?_); rintro e w' ⟨rfl, ⟨nd, rfl⟩⟩; refine ⟨_, rfl, ?_⟩))
 go_ret
 exact ⟨by first | rfl | (simp; done) | (simp [*]; done), by repeat (first | exact Drawn0.refl _ | apply Drawn0.step)⟩

-- NOT PRINTED: function 29 (fault_New)

/-! ### split_Check: function 18 (by hand) -/
section
open Go.Shelf Go.Proofs.YtmkjifljciajbaaDoor
set_option linter.unusedVariables false
attribute [local go_sem] Oper.semAt_some
/-- The first piece that is no subtag. -/
def split_CheckAt.go (k : Nat) : List (Nat × ByteArray) → Option (Option Nat)
  | [] => some none
  | x :: t => (split_CheckAt.go k t).bind fun r => if x.2.size > 8 then some (some x.1) else (ascii_Alnum.f k x.2).bind fun b => some (if b = true then r else some x.1)
def split_CheckAt.f (k : Nat) (s : ByteArray) : Option (Option Nat) := if s.size ≤ 140737488355328 then split_CheckAt.go k (eachB s) else none
theorem split_CheckAt.mono_go (k : Nat) : ∀ l, LeO (split_CheckAt.go k l) (split_CheckAt.go (k + 1) l)
  | [] => LeO.refl _
  | x :: t => by
    unfold split_CheckAt.go
    exact LeO.bind (split_CheckAt.mono_go k t) fun r => LeO.ite (LeO.refl _) (LeO.bind (ascii_Alnum.mono x.2 k) fun b => LeO.refl _)
theorem split_CheckAt.mono : ∀ s k, LeO (split_CheckAt.f k s) (split_CheckAt.f (k + 1) s) := fun s k => by
  unfold split_CheckAt.f
  exact LeO.ite (split_CheckAt.mono_go k _) (LeO.none _)
def badB (k : Nat) (x : Nat × ByteArray) : Bool := decide (8 < x.2.size) || decide (ascii_Alnum.f k x.2 = some false)
theorem go_spec {k : Nat} : ∀ {L : List (Nat × ByteArray)} {r : Option Nat}, split_CheckAt.go k L = some r → (∀ x ∈ L, x.2.size ≤ 8 → ∃ b, ascii_Alnum.f k x.2 = some b) ∧ r = (L.find? (badB k)).map (·.1)
  | [], r, h => ⟨fun x hx => (by cases hx), (Option.some.inj h).symm⟩
  | x :: t, r, h => by
    rw [split_CheckAt.go] at h
    obtain ⟨r', h1, h⟩ := Option.bind_eq_some_iff.1 h
    obtain ⟨i1, i2⟩ := go_spec h1
    rw [List.find?_cons]
    by_cases c : x.2.size > 8
    · rw [if_pos c] at h
      rw [show badB k x = true from by simp [badB, c]]
      refine ⟨fun y hy hs => ?_, (Option.some.inj h).symm⟩
      rcases List.mem_cons.1 hy with rfl | hy
      · omega
      · exact i1 y hy hs
    · rw [if_neg c] at h
      obtain ⟨b, h2, h⟩ := Option.bind_eq_some_iff.1 h
      refine ⟨fun y hy hs => ?_, ?_⟩
      · rcases List.mem_cons.1 hy with rfl | hy
        · exact ⟨b, h2⟩
        · exact i1 y hy hs
      · cases b with
        | true =>
          rw [show badB k x = false from by simp [badB, c, h2]]
          rw [if_pos rfl] at h
          rw [← Option.some.inj h]; exact i2
        | false =>
          rw [show badB k x = true from by simp [badB, h2]]
          rw [if_neg (by decide)] at h
          exact (Option.some.inj h).symm
/-- What Check answers, as a value. -/
def CheckErr (w : World) (n₀ : Nat) (v : Value) : Option Nat → Prop
  | none => v = .nilIface
  | some a => ∃ B, n₀ ≤ B ∧ Err w v [(B, (a : Int), ⟨#[115, 117, 98, 116, 97, 103]⟩)] (some 10)
theorem CheckErr.err {w : World} {n₀ : Nat} {v : Value} {r : Option Nat} (h : CheckErr w n₀ v r) : ∃ L k, Err w v L k ∧ placeOf L = (match r with | none => -1 | some a => (a : Int)) := by
  cases r with
  | none => obtain rfl := h; exact ⟨_, _, Err.nil, rfl⟩
  | some a => obtain ⟨B, _, h⟩ := h; exact ⟨_, _, h, rfl⟩
theorem CheckErr.below {w w' : World} {n₀ : Nat} {v : Value} {r : Option Nat} (h : CheckErr w n₀ v r) (hb : Below w.heap.size w w') : CheckErr w' n₀ v r := by
  cases r with
  | none => exact h
  | some a => obtain ⟨B, h1, h⟩ := h; exact ⟨B, h1, h.keeps hb⟩
theorem ownFrom_fault {β : Type} {B : Nat} {w : World} {q : β → Nat → Prop} : OwnFrom B (fun (pre : β) W => (∃ C, w.heap.size < C ∧ ∃ a : Nat, Boxed W w.heap.size 39 (.iface 57 (.pointer (some ⟨C, 0, none⟩))) ∧ FaultAt W (C, (a : Int), ⟨#[115, 117, 98, 116, 97, 103]⟩) (.iface 41 (.int .i64 10)) ∧ Hid (q pre a))) :=
  fun s W W' row hs hg hr => by
    obtain ⟨C, h1, a, hb, hf, hq⟩ := hs
    exact ⟨C, h1, a, (Own.from (boxed_own (β := Unit) _ _ (fun _ => _)) B) () W W' row hb hg hr, ⟨cell_kept hf.at_ hg (fun r e => (hr r e).2), cell_kept hf.what hg (fun r e => (hr r e).2), cell_kept hf.inner hg (fun r e => (hr r e).2)⟩, hq⟩
theorem keepsOthers_below {W W' : World} (h : Below W.heap.size W W') : KeepsOthers W W' := ⟨h.size, fun k _ hk _ => (h.block k (Array.getElem?_eq_some_iff.1 hk).1).trans hk⟩
theorem fault_new {V : World} {a : Int} {what : ByteArray} {inner v : Value} {B : Nat} : FaultAt ((V.setCell ⟨B, 0, none⟩ v).alloc (.cells #[.int .i64 a, .string what, inner] 59)) (V.heap.size, a, what) inner := by
  have hs : (V.setCell ⟨B, 0, none⟩ v).heap.size = V.heap.size := by simp
  refine ⟨?_, ?_, ?_⟩ <;> (rw [← hs, World.cell?_alloc_new]; rfl)
theorem fault_new2 {V : World} {a : Int} {what : ByteArray} {inner v : Value} {B : Nat} (h : B < V.heap.size) : FaultAt ((V.alloc (.cells #[.int .i64 a, .string what, inner] 59)).setCell ⟨B, 0, none⟩ v) (V.heap.size, a, what) inner := by
  have hne : ∀ j : Nat, (⟨V.heap.size, j, none⟩ : Addr) ≠ ⟨B, 0, none⟩ := fun j e => by have := congrArg Addr.block e; simp at this; omega
  refine ⟨?_, ?_, ?_⟩ <;> (rw [World.cell?_setCell_other _ _ _ _ (hne _).symm, World.cell?_alloc_new]; rfl)
theorem find_last {k : Nat} {pre : List (Nat × ByteArray)} {x : Nat × ByteArray} (h : ∀ y ∈ pre, badB k y = false) (hx : badB k x = true) : ((pre ++ [x]).find? (badB k)).map (·.1) = some x.1 := by
  rw [List.find?_append, List.find?_eq_none.2 (fun y hy => by rw [h y hy]; decide), List.find?_cons, hx]; rfl
set_option maxRecDepth 100000 in
set_option maxHeartbeats 4000000 in
theorem split_CheckAt.calls (k : Nat) (a0 : ByteArray) (r : Option Nat) (w : World) (h : split_CheckAt.f k a0 = some r) :
    Calls Tryd.prog 18 #[.string a0] w fun e w' => ∃ v, e = .returned v ∧ CheckErr w' w.heap.size v r ∧ Below w.heap.size w w' := by
  unfold split_CheckAt.f at h
  have hs : a0.size ≤ 140737488355328 := by
    by_cases c : a0.size ≤ 140737488355328
    · exact c
    · rw [if_neg c] at h; cases h
  rw [if_pos hs] at h
  have H := Lib.hid h
  clear h
  refine (callsIn_wide (n := 3)).1 ?_
  refine callsIn_of_wp_marks Tryd.func18 rfl trivial ?_ rfl
  simp only [Tryd.ntmps18, List.size_toArray, List.length_cons, List.length_nil, Nat.reduceAdd, Nat.reduceSub, Array.replicate_succ, Array.replicate_zero, List.push_toArray, List.append_toArray, List.nil_append, List.cons_append]
  have b0 := Boxed.new w 39 .nilIface
  have B0 := Lib.hid b0
  clear b0
  gi_wp2_with (refine ⟨trivial, ?_⟩; gi_at_call 13; refine (each_in Fence.wide (3 - 1) trivial rfl _ _).mono ?_; rintro e w' ⟨rfl, rfl⟩)
  have bN := Boxed.new (w.alloc (.cells #[.nilIface] 39)) 9 (.string a0)
  rw [World.size_alloc] at bN
  have hB0 : Below w.heap.size w ((w.alloc (.cells #[.nilIface] 39)).alloc (.cells #[.string a0] 9)) := ((Below.refl _ w).alloc (Nat.le_refl _) _).alloc (by simp) _
  refine wpIn_rangeFunc_ownG (F := Fence.wide) rfl (by decide) (gf := 26) (lb := #[.pointer (some ⟨w.heap.size + 1, 0, none⟩)]) rfl trivial (enters_of Tryd.func26 (by kernel_rfl) rfl)
    (each_stops (3 - 1) (by decide) (w.heap.size + 1) a0 hs _ (by simp) bN.cell) KeepsCell.trans keepsCell_b (Below.refl _ _) (fun _ => rfl)
    (fun (pre : List (Pc a0)) W => Boxed W w.heap.size 39 .nilIface ∧ Below w.heap.size w W ∧ Hid (∀ y ∈ pre.map (·.1), badB k y = false))
    (fun c (pre : List (Pc a0)) W => (∃ C, w.heap.size < C ∧ ∃ a : Nat, Boxed W w.heap.size 39 (.iface 57 (.pointer (some ⟨C, 0, none⟩))) ∧ FaultAt W (C, (a : Int), ⟨#[115, 117, 98, 116, 97, 103]⟩) (.iface 41 (.int .i64 10)) ∧ Hid (((pre.map (·.1)).find? (badB k)).map (·.1) = some a)) ∧ Below w.heap.size w W ∧ Hid (c = .ret))
    (OwnFrom.and (Own.from (boxed_own _ _ _) _) (OwnFrom.and (ownFrom_below (Nat.le_refl _) (by simp; omega)) (ownFrom_pure _ _)))
    (fun c => OwnFrom.and ownFrom_fault (OwnFrom.and (ownFrom_below (Nat.le_refl _) (by simp; omega)) (ownFrom_pure _ _)))
    ⟨B0.out.alloc _, hB0, fun y hy => (by cases hy)⟩
    (fun (x : Pc a0) => { tmps := #[.string a0, undef, .pointer (some ⟨w.heap.size, 0, none⟩), .int .i64 (x.1.1 : Int), .string x.1.2, .string a0, .func (.func 26) #[] #[.pointer (some ⟨w.heap.size + 1, 0, none⟩)], .int .i64 (x.1.1 : Int), .string x.1.2, undef, undef, undef, undef, undef, undef, undef, undef, undef, undef], defers := [] }) ?assign ?body ?done ?stop
  case assign =>
    intro l x V K hK
    gi_wp2
    exact hK
  case body =>
    rintro l pre x V ⟨hb, hbel, hall⟩ hlen
    have HS := Lib.hid (go_spec H.out).1
    have HB := Lib.hid hb
    have HBel := Lib.hid hbel
    have hcr := hb.cell
    have hcf := hb.frozen
    have hwV : w.heap.size < V.heap.size := hb.lt
    clear hb hbel
    by_cases h8 : 8 < x.1.2.size
    · have c0 : decide ((x.1.2.size : Int) > 8) = true := decide_eq_true (by omega)
      have c1 : decide (8 < (x.1.2.size : Int)) = true := decide_eq_true (by omega)
      have c2 : decide (8 < x.1.2.size) = true := decide_eq_true h8
      have HX : Hid (badB k x.1 = true) := by show badB k x.1 = true; simp [badB, h8]
      have b2 : Boxed (V.alloc (.cells #[.int .i64 (x.1.1 : Int), .string ⟨#[115, 117, 98, 116, 97, 103]⟩, .iface 41 (.int .i64 10)] 59)) w.heap.size 39 .nilIface := HB.out.alloc _
      have hcr2 := b2.cell
      have hcf2 := b2.frozen
      clear h8
      gi_wp2
      refine ⟨trivial, ?_⟩
      gi_wp2_with (refine ⟨trivial, ?_⟩; gi_at_call 29; refine (callsIn_wide.2 (New_ok 10 (x.1.1 : Int) ⟨#[115, 117, 98, 116, 97, 103]⟩ _ (by decide))).mono ?_; rintro e w2 ⟨rfl, rfl⟩)
      refine ⟨((KeepsOthers.setCell _ _ _).trans (KeepsOthers.alloc _ _)).from _, ⟨V.heap.size, hwV, x.1.1, (HB.out.set _).alloc _, fault_new, ?_⟩, (HBel.out.setCell (p := ⟨w.heap.size, 0, none⟩) (Nat.le_refl _) _).alloc (by simp; omega) _, rfl⟩
      show ((((pre ++ [x]).map (·.1)).find? (badB k)).map (·.1)) = some x.1.1
      rw [List.map_append]
      exact find_last hall.out HX.out
    · obtain ⟨b, hab⟩ := HS.out x.1 x.2 (by omega)
      have c0 : decide ((x.1.2.size : Int) > 8) = false := decide_eq_false (by omega)
      have c1 : decide (8 < (x.1.2.size : Int)) = false := decide_eq_false (by omega)
      have c2 : decide (8 < x.1.2.size) = false := decide_eq_false h8
      have HX : Hid (badB k x.1 = !b) := by show badB k x.1 = !b; cases b <;> simp [badB, h8, hab]
      have HA := Lib.hid hab
      clear h8 hab
      cases b with
      | true =>
        gi_wp2_with (refine ⟨trivial, ?_⟩; gi_at_call 28; refine (callsIn_wide.2 (ascii_Alnum.calls k _ _ _ HA.out)).mono ?_; rintro e w5 ⟨rfl, ⟨nd, rfl⟩⟩)
        refine ⟨(keepsOthers_below (pw_below_drewN (Below.refl _ _) nd)).from _, fun v h => h, HB.out, pw_below_drewN HBel.out nd, ?_⟩
        show ∀ y ∈ (pre ++ [x]).map (·.1), badB k y = false
        intro y hy
        rw [List.map_append] at hy
        rcases List.mem_append.1 hy with hy | hy
        · exact hall.out y hy
        · rw [List.mem_singleton.1 hy]; exact HX.out
      | false =>
        gi_wp2_with (first | (refine ⟨trivial, ?_⟩; gi_at_call 28; refine (callsIn_wide.2 (ascii_Alnum.calls k _ _ _ HA.out)).mono ?_; rintro e w5 ⟨rfl, ⟨nd, rfl⟩⟩; have b2 : Boxed ((V.drewN nd).alloc (.cells #[.int .i64 (x.1.1 : Int), .string ⟨#[115, 117, 98, 116, 97, 103]⟩, .iface 41 (.int .i64 10)] 59)) w.heap.size 39 .nilIface := Boxed.alloc (W := V.drewN nd) HB.out _; have hcr2 := b2.cell; have hcf2 := b2.frozen) | (refine ⟨trivial, ?_⟩; gi_at_call 29; refine (callsIn_wide.2 (New_ok 10 (x.1.1 : Int) ⟨#[115, 117, 98, 116, 97, 103]⟩ _ (by decide))).mono ?_; rintro e w2 ⟨rfl, rfl⟩))
        have hwV2 : w.heap.size < (V.drewN nd).heap.size := hwV
        refine ⟨((keepsOthers_below (pw_below_drewN (Below.refl _ _) nd)).trans ((KeepsOthers.alloc (V.drewN nd) _).trans (KeepsOthers.setCell _ _ _))).from _, ⟨V.heap.size, hwV, x.1.1, b2.set _, fault_new2 (V := V.drewN nd) hwV2, ?_⟩, ((pw_below_drewN HBel.out nd).alloc HBel.out.size _).setCell (p := ⟨w.heap.size, 0, none⟩) (Nat.le_refl _) _, rfl⟩
        show ((((pre ++ [x]).map (·.1)).find? (badB k)).map (·.1)) = some x.1.1
        rw [List.map_append]
        exact find_last hall.out HX.out
  case done =>
    rintro D ys V hD hys ⟨hb, hbel, hall⟩ hK
    have hr : r = none := by
      rw [(go_spec H.out).2]
      have : (eachB a0).find? (badB k) = none := List.find?_eq_none.2 fun y hy => by rw [hall.out y (by rw [hys]; exact hy)]; decide
      rw [this]; rfl
    subst hr
    have HK := Lib.hid hK
    have hcr := hb.cell
    have hcf := hb.frozen
    gi_wp2
    have hDw : w.heap.size + 2 ≤ D := by simpa using hD
    have hK2 : (V.setCell ⟨w.heap.size, 0, none⟩ .nilIface).heap[D]? = some (.deferred (some [])) := (Below.heap_setCell V ⟨w.heap.size, 0, none⟩ _ D (by simp; omega)).trans HK.out
    refine ⟨by simp, .inl ⟨_, _, rfl, run_takeDeferred hK2, ?_⟩⟩
    have hbx : Boxed ((V.setCell ⟨w.heap.size, 0, none⟩ .nilIface).putObj D (.deferred none)) w.heap.size 39 .nilIface := (World.putObj_heap_other (by omega)).trans (hb.set _)
    have hcell := hbx.cell
    exact ⟨.nilIface, by simp [results, Tryd.f18, go_sem, hcell], _, rfl, rfl, (hbel.setCell (p := ⟨w.heap.size, 0, none⟩) (Nat.le_refl _) _).trans (belowK_b (w := w) (Nat.le_refl _) _ D _ _ (by omega) hK2 rfl rfl)⟩
  case stop =>
    rintro D c pre V hD hp ⟨⟨C, hC, a, hb, hf, ha⟩, hbel, hc⟩ hK
    obtain rfl := hc.out
    have hr : r = some a := by
      rw [(go_spec H.out).2]
      obtain ⟨t, ht⟩ := hp
      obtain ⟨z, hz, hza⟩ := Option.map_eq_some_iff.1 ha.out
      rw [← ht, List.find?_append, hz]
      show some z.1 = some a
      rw [hza]
    subst hr
    have hcr := hb.cell
    gi_wp2
    have hDw : w.heap.size + 2 ≤ D := by simpa using hD
    refine ⟨by simp, .inl ⟨_, _, rfl, run_takeDeferred hK, ?_⟩⟩
    have hbx : Boxed (V.putObj D (.deferred none)) w.heap.size 39 (.iface 57 (.pointer (some ⟨C, 0, none⟩))) := (World.putObj_heap_other (by omega)).trans hb
    have hcell := hbx.cell
    have hk : KeepsF [(C, (a : Int), ⟨#[115, 117, 98, 116, 97, 103]⟩)] V (V.putObj D (.deferred none)) := keepsF_b (w := w) V D _ _ (by omega) hK rfl rfl
    exact ⟨_, by simp [results, Tryd.f18, go_sem, hcell], _, rfl, ⟨C, by omega, .fault ⟨hk _ List.mem_cons_self _ _ hf.at_, hk _ List.mem_cons_self _ _ hf.what, hk _ List.mem_cons_self _ _ hf.inner⟩ (.errno 10)⟩, hbel.trans (belowK_b (w := w) (Nat.le_refl _) _ D _ _ (by omega) hK rfl rfl)⟩
/-- Kind's number of what Check answers. -/
def kindOf : Option Nat → Int
  | none => 0
  | some _ => 10
def split_Check.f (k : Nat) (s : ByteArray) : Option Int := (split_CheckAt.f k s).bind fun r => some (kindOf r)
theorem split_Check.mono : ∀ s k, LeO (split_Check.f k s) (split_Check.f (k + 1) s) := fun s k => LeO.bind (split_CheckAt.mono s k) fun r => LeO.refl _
/-- What Check answers, by Kind's number. -/
def CheckKd (w : World) (v : Value) (t : Int) : Prop := (v = .nilIface ∧ t = 0) ∨ ∃ B : Nat, v = .iface 57 (.pointer (some ⟨B, 0, none⟩)) ∧ w.cell? ⟨B, 2, none⟩ = some (.iface 41 (.int .i64 10)) ∧ t = 10
theorem CheckKd.iface {w : World} {v : Value} {t : Int} (h : CheckKd w v t) : v = .nilIface ∨ ∃ T u, v = .iface T u := by
  rcases h with ⟨rfl, _⟩ | ⟨B, rfl, _, _⟩
  · exact .inl rfl
  · exact .inr ⟨_, _, rfl⟩
theorem split_Check.callsE (k : Nat) (a0 : ByteArray) (t : Int) (w : World) (h : split_Check.f k a0 = some t) :
    Calls Tryd.prog 18 #[.string a0] w fun e w' => ∃ v, e = .returned v ∧ CheckKd w' v t ∧ Below w.heap.size w w' := by
  unfold split_Check.f at h
  obtain ⟨r, h1, h2⟩ := Option.bind_eq_some_iff.1 h
  obtain rfl := Option.some.inj h2
  refine (split_CheckAt.calls k a0 r w h1).mono fun e w' ⟨v, he, hv, hb⟩ => ⟨v, he, ?_, hb⟩
  cases r with
  | none => exact .inl ⟨hv, rfl⟩
  | some a =>
    obtain ⟨B, _, hE⟩ := hv
    cases hE with
    | fault hf hi => cases hi with | errno n => exact .inr ⟨B, rfl, hf.inner, rfl⟩
theorem Kind_check (v : Value) (t : Int) (w : World) (hg : w.cell? ⟨0, 0, none⟩ = some errGV) (h : CheckKd w v t) :
    Calls Tryd.prog 21 #[v] w fun e w' => e = .returned (.int .i64 t) ∧ Below w.heap.size w w' := by
  rcases h with ⟨rfl, rfl⟩ | ⟨B, rfl, hc, rfl⟩
  · exact (Kind_nil w).mono fun e w' ⟨he, hw⟩ => ⟨he, by rw [hw]; exact Below.refl _ _⟩
  · exact Kind_hit B 10 w hg hc
-- needs: 28
end

-- NOT PRINTED: function 41 (reflectlite_ValueOf)

-- NOT PRINTED: function 42 (reflectlite_Value_Type)

-- NOT PRINTED: function 43 (reflectlite_Value_IsNil)

-- NOT PRINTED: function 56 (reflectlite_TypeOf)

-- NOT PRINTED: function 57 (reflectlite_Value_Elem)

-- NOT PRINTED: function 58 (reflectlite_Value_Set)

-- NOT PRINTED: function 44 (errors_as)

-- NOT PRINTED: function 32 (errors_As)

-- NOT PRINTED: function 21 (fault_Kind)

-- NOT PRINTED: function 31 (fault_faults)

-- NOT PRINTED: function 22 (fault_Place)

/-! ### isoglosslaw04_awake: function 9 (by hand) -/
section
open Go.Shelf Go.Proofs.YtmkjifljciajbaaDoor
set_option linter.unusedVariables false
attribute [local go_sem] Oper.semAt_some
theorem Err.one {w : World} {v : Value} {x : Nat × Int × ByteArray} {n : Int} (h : Err w v [x] (some n)) : v = .iface 57 (.pointer (some ⟨x.1, 0, none⟩)) ∧ w.cell? ⟨x.1, 2, none⟩ = some (.iface 41 (.int .i64 n)) := by
  cases h with
  | fault hf hi => cases hi with | errno n => exact ⟨rfl, hf.inner⟩
def isoglosslaw04_awake.f (k : Nat) : Option Bool := (split_CheckAt.f k ⟨#[101, 110, 45, 45, 117, 115]⟩).bind fun r => (split_Trim.f k ⟨#[122, 104, 45, 72, 97, 110, 116, 45, 67, 78, 45, 120, 45, 112, 114, 105, 118, 97, 116, 101, 49]⟩).bind fun t =>
  if r = some 3 ∧ t = ⟨#[122, 104, 45, 72, 97, 110, 116, 45, 67, 78]⟩ then some true else none
theorem isoglosslaw04_awake.mono : ∀ k, LeO (isoglosslaw04_awake.f k) (isoglosslaw04_awake.f (k + 1)) := fun k => by
  unfold isoglosslaw04_awake.f
  exact LeO.bind (split_CheckAt.mono _ k) fun r => LeO.bind (split_Trim.mono _ k) fun t => LeO.refl _
set_option maxHeartbeats 2000000 in
theorem isoglosslaw04_awake.calls (k : Nat) (r : Bool) (w : World) (hg : w.cell? ⟨0, 0, none⟩ = some errGV) (h : isoglosslaw04_awake.f k = some r) :
    Calls Tryd.prog 9 #[] w fun e w' => e = .returned (.bool r) ∧ Below w.heap.size w w' := by
  unfold isoglosslaw04_awake.f at h
  obtain ⟨q, e1, h⟩ := Option.bind_eq_some_iff.1 h
  obtain ⟨t, e2, h⟩ := Option.bind_eq_some_iff.1 h
  obtain ⟨rfl, rfl⟩ : q = some 3 ∧ t = ⟨#[122, 104, 45, 72, 97, 110, 116, 45, 67, 78]⟩ := by
    by_cases c : q = some 3 ∧ t = ⟨#[122, 104, 45, 72, 97, 110, 116, 45, 67, 78]⟩
    · exact c
    · rw [if_neg c] at h; cases h
  obtain rfl : true = r := by rw [if_pos ⟨rfl, rfl⟩] at h; exact Option.some.inj h
  clear h
  have E1 := Lib.hid e1
  have E2 := Lib.hid e2
  have HG := Lib.hid hg
  clear e1 e2 hg
  go_enter Tryd.func9, Tryd.ntmps9
  go_wp2_with (first
    | (go_at_call 18; refine (split_CheckAt.calls k _ _ _ E1.out).mono ?_; rintro e w2 ⟨v, rfl, ⟨B, hB, hv⟩, hb⟩; obtain ⟨rfl, _⟩ := hv.one; have HE := Lib.hid hv; have HB := Lib.hid hb; clear hb hv)
    | (go_at_call 12; refine (split_Trim.calls k _ _ _ E2.out).mono ?_; rintro e w3 ⟨rfl, ⟨nd, rfl⟩⟩; have HE2 := Lib.hid (HE.out.keeps (pw_below_drewN (Below.refl _ _) nd)); have HB2 := Lib.hid (pw_below_drewN HB.out nd); clear HE HB)
    | (go_at_call 21; refine (Kind_hit B 10 _ (pw_cell_below HB2.out HG.out) HE2.out.one.2).mono ?_; rintro e w4 ⟨rfl, hb⟩; have HE3 := Lib.hid (HE2.out.keeps hb); have HB3 := Lib.hid (below_step HB2.out hb); clear hb HE2 HB2)
    | (go_at_call 22; refine (Place_calls _ _ _ _ HE3.out).mono ?_; rintro e w5 ⟨rfl, hb⟩; have HB4 := Lib.hid (below_step HB3.out hb); clear hb))
  go_ret
  exact ⟨by simp [placeOf], HB4.out⟩
end

/-! ### isoglosslaw04_short: function 10 -/
def isoglosslaw04_short.f (a0 : ByteArray) : Option (ByteArray) := if (a0.size : Int) > 60 then (if 0 ≤ 60 then (if 60 ≤ (a0.size : Int) then (some (a0.extract 0 60)) else (none)) else (none)) else (some a0)
set_option maxHeartbeats 8000000 in
set_option maxRecDepth 100000 in
theorem isoglosslaw04_short.calls (a0 : ByteArray) (r : ByteArray) (w : World) (h : isoglosslaw04_short.f a0 = some r) :
  Calls Tryd.prog 10 #[.string a0] w fun e w' => e = .returned (.string r) ∧ Drawn0 w w' := by
 have H : (if (a0.size : Int) > 60 then (if 0 ≤ 60 then (if 60 ≤ (a0.size : Int) then (some (a0.extract 0 60)) else (none)) else (none)) else (some a0)) = some r := h
 clear h
 by_cases c2 : (a0.size : Int) > 60
 ·rw [if_pos c2] at H
  have c2b0 : decide (60 < (a0.size : Int)) = true := decide_eq_true c2
  have c2b1 : decide (60 < a0.size) = true := decide_eq_true (by omega)
  clear c2
  by_cases c3 : 0 ≤ 60
  ·rw [if_pos c3] at H
   have c3b0 := eq_true c3
   have c3b1 : decide (0 ≤ 60) = true := decide_eq_true c3
   clear c3
   by_cases c4 : 60 ≤ (a0.size : Int)
   ·rw [if_pos c4] at H
    have c4b0 := eq_true c4
    have c4b1 : decide (60 ≤ (a0.size : Int)) = true := decide_eq_true c4
    clear c4
    obtain rfl := Option.some.inj H
    go_enter Tryd.func10, Tryd.ntmps10
    go_wp2
    go_ret
    exact ⟨by first | rfl | (simp; done) | (simp [*]; done), by repeat (first | exact Drawn0.refl _ | apply Drawn0.step)⟩
   ·rw [if_neg c4] at H
    exact absurd H (by simp)
  ·rw [if_neg c3] at H
   exact absurd H (by simp)
 ·rw [if_neg c2] at H
  have c2b0 : decide (60 < (a0.size : Int)) = false := decide_eq_false c2
  have c2b1 : decide (60 < a0.size) = false := decide_eq_false (by omega)
  clear c2
  obtain rfl := Option.some.inj H
  go_enter Tryd.func10, Tryd.ntmps10
  go_wp2
  go_ret
  exact ⟨by first | rfl | (simp; done) | (simp [*]; done), by repeat (first | exact Drawn0.refl _ | apply Drawn0.step)⟩

/-! ### split_Split: function 11 (by hand) -/
-- (its contract stands in Hand1)

end Go.Proofs.YtmkjifljciajbaaDoor.P
