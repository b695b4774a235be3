-- Written for this claim by the session's own run of the print, functions proved by hand put in.
import Derived.Test.YtoigdaioghmlpaaPx0
namespace Go.Proofs.Ytoigdaioghmlpaa.P
open Go.RowKit Go.Proofs.YtoigdaioghmlpaaW.PrintWords Go.Proofs.YtoigdaioghmlpaaW.PrintLast Go.Proofs.YtoigdaioghmlpaaW.PrintMore
attribute [local go_sem] max2_int min2_int max_two min_two max_three min_three max_four min_four   -- for this text's walks alone
set_option linter.unusedVariables false
set_option linter.unusedSimpArgs false

/-! ### bytealg_LastIndexByteString: function 41 -/
def bytealg_LastIndexByteString.l0 : Nat → ByteArray → Int → Int → Option (Int)
 | 0, _, _, _ => none
 | k + 1, x0, x1, x5 => if x5 ≥ 0 then (if 0 ≤ x5 then (if x5 < (x0.size : Int) then (if (bt x0 x5) = x1 then (some x5) else (bytealg_LastIndexByteString.l0 k x0 x1 (wrap64 (x5 - 1)))) else (none)) else (none)) else (some (-1))
def bytealg_LastIndexByteString.f (k : Nat) (a0 : ByteArray) (a1 : Int) : Option (Int) := bytealg_LastIndexByteString.l0 k a0 a1 (wrap64 ((a0.size : Int) - 1))
theorem bytealg_LastIndexByteString.mono_l : ∀ k, (∀ y0 y1 y2, LeO (bytealg_LastIndexByteString.l0 k y0 y1 y2) (bytealg_LastIndexByteString.l0 (k + 1) y0 y1 y2))
 | 0 => fun _ _ _ r h => by simp [bytealg_LastIndexByteString.l0] at h
 | k + 1 => by
  have ih0 := bytealg_LastIndexByteString.mono_l k
  ·intro y0 y1 y2
   unfold bytealg_LastIndexByteString.l0
   repeat' first
   | (with_reducible exact ih0 _ _ _)
   | (with_reducible exact LeO.refl _)
   | (with_reducible exact LeO.none _)
   | (with_reducible refine LeO.ite ?_ ?_)
   | (with_reducible refine LeO.bind ?_ (fun _ => ?_))
   | exact ih0 _ _ _
   | exact LeO.none _
   | refine LeO.ite ?_ ?_
   | refine LeO.bind ?_ (fun _ => ?_)
theorem bytealg_LastIndexByteString.mono : ∀ a0 a1 k, LeO (bytealg_LastIndexByteString.f k a0 a1) (bytealg_LastIndexByteString.f (k + 1) a0 a1) := by
 intro a0 a1 k
 have ih0 := bytealg_LastIndexByteString.mono_l k
 unfold bytealg_LastIndexByteString.f
 repeat' first
   | (with_reducible exact ih0 _ _ _)
   | (with_reducible exact LeO.refl _)
   | (with_reducible exact LeO.none _)
   | (with_reducible refine LeO.ite ?_ ?_)
   | (with_reducible refine LeO.bind ?_ (fun _ => ?_))
   | exact ih0 _ _ _
   | exact LeO.none _
   | refine LeO.ite ?_ ?_
   | refine LeO.bind ?_ (fun _ => ?_)
set_option maxHeartbeats 8000000 in
set_option maxRecDepth 100000 in
theorem bytealg_LastIndexByteString.calls (k : Nat) (a0 : ByteArray) (a1 : Int) (r : Int) (w : World) (h : bytealg_LastIndexByteString.f k a0 a1 = some r) :
  Calls Try.prog 41 #[.string a0, .int .u8 a1] w fun e w' => e = .returned (.int .i64 r) ∧ Drawn0 w w' := by
 have H : (bytealg_LastIndexByteString.l0 k a0 a1 (wrap64 ((a0.size : Int) - 1))) = some r := h
 clear h
 have H' := Aside0.mk H
 clear H
 go_enter Try.func41, Try.ntmps41
 go_wp2
 go_loopg [5] k (fun kq v5 w' => ∃ (x5_1 : Int), v5 = .int .i64 x5_1 ∧ Aside0 (bytealg_LastIndexByteString.l0 kq a0 a1 x5_1 = some r) ∧ Aside0 (kq ≤ k) ∧ Drawn0 w w')
 case atStart => exact ⟨(wrap64 ((a0.size : Int) - 1)), (by first | rfl | (simp; done) | (simp [*]; done)), H', ⟨Nat.le_refl _⟩, by repeat (first | exact Drawn0.refl _ | apply Drawn0.step)⟩
 case round =>
  clear H'
  try clear p2
  obtain ⟨x5_1, rfl, HA, HK1, ⟨m1, rfl⟩⟩ := hrel
  cases gk with
  | zero => exact absurd HA.out (by simp [bytealg_LastIndexByteString.l0])
  | succ k1 =>
   have H := HA.out
   clear HA
   simp only [bytealg_LastIndexByteString.l0] at H
   by_cases c3 : x5_1 ≥ 0
   ·rw [if_pos c3] at H
    have c3b0 : decide (0 ≤ x5_1) = true := decide_eq_true c3
    clear c3
    by_cases c4 : 0 ≤ x5_1
    ·rw [if_pos c4] at H
     have c4b0 : decide (0 ≤ x5_1) = true := decide_eq_true c4
     clear c4
     by_cases c5 : x5_1 < (a0.size : Int)
     ·rw [if_pos c5] at H
      have c5b0 : decide (x5_1 < (a0.size : Int)) = true := decide_eq_true c5
      clear c5
      by_cases c7 : (bt a0 x5_1) = a1
      ·rw [if_pos c7] at H
       have c7b0 : ((bt a0 x5_1) == a1) = true := beq_iff_eq.mpr c7
       have c7b1 : ((bt a0 x5_1) != a1) = false := bne_eq_false_iff_eq.mpr c7
       clear c7
       obtain rfl := Option.some.inj H
       have p6 : 0 ≤ (x5_1 : Int) := of_decide_eq_true (by first | (with_reducible assumption) | assumption)
       have q6 : x5_1 < (a0.size : Int) := of_decide_eq_true (by first | (with_reducible assumption) | assumption)
       have hx6 := bt_at a0 x5_1
       replace p6 := eq_true p6
       replace q6 := eq_true q6
       go_wp2
       go_ret
       exact ⟨by first | rfl | (simp; done) | (simp [*]; done), by repeat (first | exact Drawn0.refl _ | apply Drawn0.step)⟩
      ·rw [if_neg c7] at H
       have c7b0 : ((bt a0 x5_1) == a1) = false := beq_eq_false_iff_ne.mpr c7
       have c7b1 : ((bt a0 x5_1) != a1) = true := bne_iff_ne.mpr c7
       have H' := Aside0.mk H
       clear H
       have p6 : 0 ≤ (x5_1 : Int) := of_decide_eq_true (by first | (with_reducible assumption) | assumption)
       have q6 : x5_1 < (a0.size : Int) := of_decide_eq_true (by first | (with_reducible assumption) | assumption)
       have hx6 := bt_at a0 x5_1
       replace p6 := eq_true p6
       replace q6 := eq_true q6
       go_wp2
       go_roundg k1
       case measure => have := HK1.out; omega
       case rel => exact ⟨(wrap64 (x5_1 - 1)), (by first | rfl | (simp; done) | (simp [*]; done)), H', ⟨by have := HK1.out; omega⟩, by repeat (first | exact Drawn0.refl _ | apply Drawn0.step)⟩
     ·rw [if_neg c5] at H
      exact absurd H (by simp)
    ·rw [if_neg c4] at H
     exact absurd H (by simp)
   ·rw [if_neg c3] at H
    have c3b0 : decide (0 ≤ x5_1) = false := decide_eq_false c3
    clear c3
    obtain rfl := Option.some.inj H
    go_wp2
    go_ret
    exact ⟨by first | rfl | (simp; done) | (simp [*]; done), by repeat (first | exact Drawn0.refl _ | apply Drawn0.step)⟩

-- NOT PRINTED: function 48 (bytealg_hashStrRev_string)

-- NOT PRINTED: function 42 (bytealg_LastIndexRabinKarp_string)

/-! ### strings_LastIndex: function 34 (by hand) -/
def strings_LastIndex.f (k : Nat) (a0 : ByteArray) (a1 : ByteArray) : Option (Int) := if a1 = (⟨#[45]⟩ : ByteArray) then bytealg_LastIndexByteString.f k a0 45 else none
theorem strings_LastIndex.mono : ∀ a0 a1 k, LeO (strings_LastIndex.f k a0 a1) (strings_LastIndex.f (k + 1) a0 a1) := by
  intro a0 a1 k
  unfold strings_LastIndex.f
  exact LeO.ite (bytealg_LastIndexByteString.mono a0 45 k) (LeO.none _)
set_option maxHeartbeats 2000000 in
theorem strings_LastIndex.calls (k : Nat) (a0 : ByteArray) (a1 : ByteArray) (r : Int) (w : World) (h : strings_LastIndex.f k a0 a1 = some r) :
    Calls Try.prog 34 #[.string a0, .string a1] w fun e w' => e = .returned (.int .i64 r) ∧ Drawn0 w w' := by
  unfold strings_LastIndex.f at h
  by_cases c : a1 = (⟨#[45]⟩ : ByteArray)
  · rw [if_pos c] at h
    subst c
    have H := Lib.hid h
    clear h
    go_enter Try.func34, Try.ntmps34
    go_wp2_with (go_at_call 41; refine (bytealg_LastIndexByteString.calls k _ _ _ _ H.out).mono ?_; rintro e w' ⟨rfl, hd⟩)
    go_ret
    exact ⟨rfl, hd⟩
  · rw [if_neg c] at h; cases h

/-! ### split_Trim: function 25 -/
def split_Trim.l0 : Nat → ByteArray → Option (ByteArray)
 | 0, _ => none
 | k + 1, x0 => (strings_LastIndex.f k x0 (⟨#[45]⟩ : ByteArray)).bind fun t101 => (if t101 < 0 then (some (⟨#[]⟩ : ByteArray)) else (if 0 ≤ t101 then (if t101 ≤ (x0.size : Int) then ((strings_LastIndex.f k (x0.extract 0 (t101 : Int).toNat) (⟨#[45]⟩ : ByteArray)).bind fun t102 => (if t102 < 0 then (some (x0.extract 0 (t101 : Int).toNat)) else (if (wrap64 ((wrap64 (((x0.extract 0 (t101 : Int).toNat).size : Int) - t102)) - 1)) = 1 then (split_Trim.l0 k (x0.extract 0 (t101 : Int).toNat)) else (some (x0.extract 0 (t101 : Int).toNat))))) else (none)) else (none)))
def split_Trim.f (k : Nat) (a0 : ByteArray) : Option (ByteArray) := split_Trim.l0 k a0
theorem split_Trim.mono_l : ∀ k, (∀ y0, LeO (split_Trim.l0 k y0) (split_Trim.l0 (k + 1) y0))
 | 0 => fun _ r h => by simp [split_Trim.l0] at h
 | k + 1 => by
  have ih0 := split_Trim.mono_l k
  ·intro y0
   unfold split_Trim.l0
   repeat' first
   | (with_reducible exact ih0 _)
   | (with_reducible exact strings_LastIndex.mono _ _ _)
   | (with_reducible exact LeO.refl _)
   | (with_reducible exact LeO.none _)
   | (with_reducible refine LeO.ite ?_ ?_)
   | (with_reducible refine LeO.bind ?_ (fun _ => ?_))
   | exact ih0 _
   | exact strings_LastIndex.mono _ _ _
   | exact LeO.none _
   | refine LeO.ite ?_ ?_
   | refine LeO.bind ?_ (fun _ => ?_)
theorem split_Trim.mono : ∀ a0 k, LeO (split_Trim.f k a0) (split_Trim.f (k + 1) a0) := by
 intro a0 k
 have ih0 := split_Trim.mono_l k
 unfold split_Trim.f
 repeat' first
   | (with_reducible exact ih0 _)
   | (with_reducible exact strings_LastIndex.mono _ _ _)
   | (with_reducible exact LeO.refl _)
   | (with_reducible exact LeO.none _)
   | (with_reducible refine LeO.ite ?_ ?_)
   | (with_reducible refine LeO.bind ?_ (fun _ => ?_))
   | exact ih0 _
   | exact strings_LastIndex.mono _ _ _
   | exact LeO.none _
   | refine LeO.ite ?_ ?_
   | refine LeO.bind ?_ (fun _ => ?_)
set_option maxHeartbeats 8000000 in
set_option maxRecDepth 100000 in
theorem split_Trim.calls (k : Nat) (a0 : ByteArray) (r : ByteArray) (w : World) (h : split_Trim.f k a0 = some r) :
  Calls Try.prog 25 #[.string a0] w fun e w' => e = .returned (.string r) ∧ Drawn0 w w' := by
 have H : (split_Trim.l0 k a0) = some r := h
 clear h
 have H' := Aside0.mk H
 clear H
 go_enter Try.func25, Try.ntmps25
 go_wp2
 go_loopg [0] k (fun kq v0 w' => ∃ (x0_1 : ByteArray), v0 = .string x0_1 ∧ Aside0 (split_Trim.l0 kq x0_1 = some r) ∧ Aside0 (kq ≤ k) ∧ Drawn0 w w')
 case atStart => exact ⟨(a0), (by first | rfl | (simp; done) | (simp [*]; done)), H', ⟨Nat.le_refl _⟩, by repeat (first | exact Drawn0.refl _ | apply Drawn0.step)⟩
 case round =>
  clear H'
  obtain ⟨x0_1, rfl, HA, HK1, ⟨m1, rfl⟩⟩ := hrel
  cases gk with
  | zero => exact absurd HA.out (by simp [split_Trim.l0])
  | succ k1 =>
   have H := HA.out
   clear HA
   simp only [split_Trim.l0] at H
   replace H := Option.bind_eq_some_iff.mp H
   obtain ⟨t101, A20, H⟩ := H
   replace H : (if t101 < 0 then (some (⟨#[]⟩ : ByteArray)) else (if 0 ≤ t101 then (if t101 ≤ (x0_1.size : Int) then ((strings_LastIndex.f k1 (x0_1.extract 0 (t101 : Int).toNat) (⟨#[45]⟩ : ByteArray)).bind fun t102 => (if t102 < 0 then (some (x0_1.extract 0 (t101 : Int).toNat)) else (if (wrap64 ((wrap64 (((x0_1.extract 0 (t101 : Int).toNat).size : Int) - t102)) - 1)) = 1 then (split_Trim.l0 k1 (x0_1.extract 0 (t101 : Int).toNat)) else (some (x0_1.extract 0 (t101 : Int).toNat))))) else (none)) else (none))) = some r := H
   have A2 := Aside0.mk A20
   clear A20
   by_cases c3 : t101 < 0
   ·rw [if_pos c3] at H
    have c3b0 : decide (t101 < 0) = true := decide_eq_true c3
    clear c3
    obtain rfl := Option.some.inj H
    go_wp2_with (first | ((with_reducible refine gate_callee (f := 34) rfl ?_); refine goesL_ (some 5) rfl rfl Try.func34 (by kernel_rfl) rfl #[.string x0_1, .string (⟨#[45]⟩ : ByteArray)] rfl (by (try simp only [List.map_toArray, List.map_cons, List.map_nil]); first | done | rfl | (simp only [List.length_drop, List.length_take]; rfl)) ?_; (with_reducible refine (strings_LastIndex.calls k1 x0_1 (⟨#[45]⟩ : ByteArray) t101 _ A2.out).mono ?_); rintro e w' ⟨rfl, ⟨nd, rfl⟩⟩; refine ⟨_, rfl, ?_⟩))
    go_ret
    exact ⟨by first | rfl | (simp; done) | (simp [*]; done), by repeat (first | exact Drawn0.refl _ | apply Drawn0.step)⟩
   ·rw [if_neg c3] at H
    have c3b0 : decide (t101 < 0) = false := decide_eq_false c3
    clear c3
    by_cases c4 : 0 ≤ t101
    ·rw [if_pos c4] at H
     have c4b0 := eq_true c4
     have c4b1 : decide (0 ≤ t101) = true := decide_eq_true c4
     clear c4
     by_cases c5 : t101 ≤ (x0_1.size : Int)
     ·rw [if_pos c5] at H
      have c5b0 := eq_true c5
      have c5b1 : decide (t101 ≤ (x0_1.size : Int)) = true := decide_eq_true c5
      clear c5
      replace H := Option.bind_eq_some_iff.mp H
      obtain ⟨t102, A60, H⟩ := H
      replace H : (if t102 < 0 then (some (x0_1.extract 0 (t101 : Int).toNat)) else (if (wrap64 ((wrap64 (((x0_1.extract 0 (t101 : Int).toNat).size : Int) - t102)) - 1)) = 1 then (split_Trim.l0 k1 (x0_1.extract 0 (t101 : Int).toNat)) else (some (x0_1.extract 0 (t101 : Int).toNat)))) = some r := H
      have A6 := Aside0.mk A60
      clear A60
      by_cases c7 : t102 < 0
      ·rw [if_pos c7] at H
       have c7b0 : decide (t102 < 0) = true := decide_eq_true c7
       clear c7
       obtain rfl := Option.some.inj H
       go_wp2_with (first | ((with_reducible refine gate_callee (f := 34) rfl ?_); refine goesL_ (some 5) rfl rfl Try.func34 (by kernel_rfl) rfl #[.string x0_1, .string (⟨#[45]⟩ : ByteArray)] rfl (by (try simp only [List.map_toArray, List.map_cons, List.map_nil]); first | done | rfl | (simp only [List.length_drop, List.length_take]; rfl)) ?_; (with_reducible refine (strings_LastIndex.calls k1 x0_1 (⟨#[45]⟩ : ByteArray) t101 _ A2.out).mono ?_); rintro e w' ⟨rfl, ⟨nd, rfl⟩⟩; refine ⟨_, rfl, ?_⟩) | ((with_reducible refine gate_callee (f := 34) rfl ?_); refine goesL_ (some 12) rfl rfl Try.func34 (by kernel_rfl) rfl #[.string (x0_1.extract 0 (t101 : Int).toNat), .string (⟨#[45]⟩ : ByteArray)] rfl (by (try simp only [List.map_toArray, List.map_cons, List.map_nil]); first | done | rfl | (simp only [List.length_drop, List.length_take]; rfl)) ?_; (with_reducible refine (strings_LastIndex.calls k1 (x0_1.extract 0 (t101 : Int).toNat) (⟨#[45]⟩ : ByteArray) t102 _ A6.out).mono ?_); rintro e w' ⟨rfl, ⟨nd, rfl⟩⟩; refine ⟨_, rfl, ?_⟩))
       go_ret
       exact ⟨by first | rfl | (simp; done) | (simp [*]; done), by repeat (first | exact Drawn0.refl _ | apply Drawn0.step)⟩
      ·rw [if_neg c7] at H
       have c7b0 : decide (t102 < 0) = false := decide_eq_false c7
       clear c7
       by_cases c8 : (wrap64 ((wrap64 (((x0_1.extract 0 (t101 : Int).toNat).size : Int) - t102)) - 1)) = 1
       ·rw [if_pos c8] at H
        have c8b0 : ((wrap64 ((wrap64 (((x0_1.extract 0 (t101 : Int).toNat).size : Int) - t102)) - 1)) == 1) = true := beq_iff_eq.mpr c8
        have c8b1 : ((wrap64 ((wrap64 (((x0_1.extract 0 (t101 : Int).toNat).size : Int) - t102)) - 1)) != 1) = false := bne_eq_false_iff_eq.mpr c8
        have sz_ : (((x0_1.extract 0 (t101 : Int).toNat).size : Int)) = max t101 0 := by have q1_ := of_eq_true c4b0; have q2_ := of_eq_true c5b0; rw [ByteArray.size_extract]; omega
        rw [sz_] at c8b0 c8b1
        clear sz_
        clear c8
        have H' := Aside0.mk H
        clear H
        go_wp2_with (first | ((with_reducible refine gate_callee (f := 34) rfl ?_); refine goesL_ (some 5) rfl rfl Try.func34 (by kernel_rfl) rfl #[.string x0_1, .string (⟨#[45]⟩ : ByteArray)] rfl (by (try simp only [List.map_toArray, List.map_cons, List.map_nil]); first | done | rfl | (simp only [List.length_drop, List.length_take]; rfl)) ?_; (with_reducible refine (strings_LastIndex.calls k1 x0_1 (⟨#[45]⟩ : ByteArray) t101 _ A2.out).mono ?_); rintro e w' ⟨rfl, ⟨nd, rfl⟩⟩; refine ⟨_, rfl, ?_⟩) | ((with_reducible refine gate_callee (f := 34) rfl ?_); refine goesL_ (some 12) rfl rfl Try.func34 (by kernel_rfl) rfl #[.string (x0_1.extract 0 (t101 : Int).toNat), .string (⟨#[45]⟩ : ByteArray)] rfl (by (try simp only [List.map_toArray, List.map_cons, List.map_nil]); first | done | rfl | (simp only [List.length_drop, List.length_take]; rfl)) ?_; (with_reducible refine (strings_LastIndex.calls k1 (x0_1.extract 0 (t101 : Int).toNat) (⟨#[45]⟩ : ByteArray) t102 _ A6.out).mono ?_); rintro e w' ⟨rfl, ⟨nd, rfl⟩⟩; refine ⟨_, rfl, ?_⟩))
        go_roundg k1
        case measure => have := HK1.out; omega
        case rel => exact ⟨(x0_1.extract 0 (t101 : Int).toNat), (by first | rfl | (simp; done) | (simp [*]; done)), H', ⟨by have := HK1.out; omega⟩, by repeat (first | exact Drawn0.refl _ | apply Drawn0.step)⟩
       ·rw [if_neg c8] at H
        have c8b0 : ((wrap64 ((wrap64 (((x0_1.extract 0 (t101 : Int).toNat).size : Int) - t102)) - 1)) == 1) = false := beq_eq_false_iff_ne.mpr c8
        have c8b1 : ((wrap64 ((wrap64 (((x0_1.extract 0 (t101 : Int).toNat).size : Int) - t102)) - 1)) != 1) = true := bne_iff_ne.mpr c8
        have sz_ : (((x0_1.extract 0 (t101 : Int).toNat).size : Int)) = max t101 0 := by have q1_ := of_eq_true c4b0; have q2_ := of_eq_true c5b0; rw [ByteArray.size_extract]; omega
        rw [sz_] at c8b0 c8b1
        clear sz_
        obtain rfl := Option.some.inj H
        go_wp2_with (first | ((with_reducible refine gate_callee (f := 34) rfl ?_); refine goesL_ (some 5) rfl rfl Try.func34 (by kernel_rfl) rfl #[.string x0_1, .string (⟨#[45]⟩ : ByteArray)] rfl (by (try simp only [List.map_toArray, List.map_cons, List.map_nil]); first | done | rfl | (simp only [List.length_drop, List.length_take]; rfl)) ?_; (with_reducible refine (strings_LastIndex.calls k1 x0_1 (⟨#[45]⟩ : ByteArray) t101 _ A2.out).mono ?_); rintro e w' ⟨rfl, ⟨nd, rfl⟩⟩; refine ⟨_, rfl, ?_⟩) | ((with_reducible refine gate_callee (f := 34) rfl ?_); refine goesL_ (some 12) rfl rfl Try.func34 (by kernel_rfl) rfl #[.string (x0_1.extract 0 (t101 : Int).toNat), .string (⟨#[45]⟩ : ByteArray)] rfl (by (try simp only [List.map_toArray, List.map_cons, List.map_nil]); first | done | rfl | (simp only [List.length_drop, List.length_take]; rfl)) ?_; (with_reducible refine (strings_LastIndex.calls k1 (x0_1.extract 0 (t101 : Int).toNat) (⟨#[45]⟩ : ByteArray) t102 _ A6.out).mono ?_); rintro e w' ⟨rfl, ⟨nd, rfl⟩⟩; refine ⟨_, rfl, ?_⟩))
        go_ret
        exact ⟨by first | rfl | (simp; done) | (simp [*]; done), by repeat (first | exact Drawn0.refl _ | apply Drawn0.step)⟩
     ·rw [if_neg c5] at H
      exact absurd H (by simp)
    ·rw [if_neg c4] at H
     exact absurd H (by simp)

/-! ### lookup_Sequence: function 12 (by hand) -/
section
open Go.Shelf Go.Proofs.Ytoigdaioghmlpaa
set_option linter.unusedVariables false
attribute [local go_sem] Oper.semAt_some
/-- The texts that are looked for, one by one. -/
def lookup_seq.f : Nat → ByteArray → Option (List ByteArray)
  | 0, _ => none
  | k + 1, s => if s.toList = ([] : List UInt8) then some [] else if s.size ≤ 140737488355328 then (split_Trim.f k s).bind fun t => if t.size < s.size then (lookup_seq.f k t).bind fun l => some (s :: l) else none else none
theorem lookup_seq.mono : ∀ s k, LeO (lookup_seq.f k s) (lookup_seq.f (k + 1) s) := by
  intro s k
  induction k generalizing s with
  | zero => exact LeO.none _
  | succ k ih =>
    rw [lookup_seq.f, lookup_seq.f]
    exact LeO.ite (LeO.refl _) (LeO.ite (LeO.bind (split_Trim.mono s k) fun t => LeO.ite (LeO.bind (ih t) fun _ => LeO.refl _) (LeO.none _)) (LeO.none _))
theorem lookup_seq.some_nil {k : Nat} {s : ByteArray} {L : List ByteArray} (h : lookup_seq.f k s = some L) (hs : s.toList = []) : L = [] := by
  cases k with
  | zero => cases h
  | succ k => rw [lookup_seq.f, if_pos hs] at h; exact (Option.some.inj h).symm
theorem lookup_seq.some_cons {k : Nat} {s : ByteArray} {L : List ByteArray} (h : lookup_seq.f k s = some L) (hs : ¬ s.toList = []) :
    ∃ k' t l, split_Trim.f k' s = some t ∧ t.size < s.size ∧ lookup_seq.f k' t = some l ∧ L = s :: l ∧ s.size ≤ 140737488355328 := by
  cases k with
  | zero => cases h
  | succ k =>
    rw [lookup_seq.f, if_neg hs] at h
    by_cases h1 : s.size ≤ 140737488355328
    · rw [if_pos h1] at h
      obtain ⟨t, ht, h⟩ := Option.bind_eq_some_iff.1 h
      by_cases h2 : t.size < s.size
      · rw [if_pos h2] at h
        obtain ⟨l, hl, h⟩ := Option.bind_eq_some_iff.1 h
        exact ⟨k, t, l, ht, h2, hl, (Option.some.inj h).symm, h1⟩
      · rw [if_neg h2] at h; cases h
    · rw [if_neg h1] at h; cases h
def strLen : Value → Nat
  | .string s => s.size
  | _ => 0
theorem grownBy_below {W W' : World} (h : Below W.heap.size W W') : W.grownBy W' none := ⟨h.os, h.tape, h.output, h.size, fun k hk _ => h.block k hk⟩
theorem sequence_in (F : Fence) (n : Nat) (h5 : F.fn 12) (hro : F.round = none) (s : ByteArray) (w : World) :
    CallsIn F n Try.prog 12 #[.string s] w fun e w' => e = .returned (.func (.func 24) #[] #[.pointer (some ⟨w.heap.size, 0, none⟩)]) ∧ w' = w.alloc (.cells #[.string s] 9) := by
  refine callsIn_of_wp Try.func12 rfl h5 ?_ hro
  simp only [Try.ntmps12, List.size_toArray, List.length_cons, List.length_nil, Nat.reduceAdd, Nat.reduceSub, Array.replicate_succ, Array.replicate_zero, List.push_toArray, List.append_toArray, List.nil_append, List.cons_append]
  gi_wp2
  go_ret
  exact ⟨rfl, rfl⟩
set_option maxRecDepth 100000 in
set_option maxHeartbeats 2000000 in
theorem seq1_in (n : Nat) (hn : 1 ≤ n) (l B : Nat) (s : ByteArray) (k : Nat) (L : List ByteArray) (hL : lookup_seq.f k s = some L) (J Jx : List ByteArray → World → Prop) (W0 : World) (hJ : AbidesFrom W0.heap.size J)
    (hY : ∀ pre x W, J pre W → pre ++ [x] <+: L → YieldAt Fence.wide (n - 1) Try.prog l #[.string x] W fun e W' =>
      (e = .returned (.bool true) ∧ J (pre ++ [x]) W') ∨ (e = .returned (.bool false) ∧ Jx (pre ++ [x]) W'))
    (W : World) (hB : W.cell? ⟨B, 0, none⟩ = some (.string s)) (h0 : J [] W) :
    CallsIn Fence.wide n Try.prog 24 #[.func (.yield l) #[] #[], .pointer (some ⟨B, 0, none⟩)] W fun e W' => (∃ v, e = .returned v) ∧
      ((∃ ys, ys = L ∧ J ys W') ∨ (∃ pre, pre <+: L ∧ Jx pre W')) := by
  refine callsIn_of_wp Try.func24 rfl trivial ?_ rfl
  simp only [Try.ntmps24, List.size_toArray, List.length_cons, List.length_nil, Nat.reduceAdd, Nat.reduceSub, Array.replicate_succ, Array.replicate_zero, List.push_toArray, List.append_toArray, List.nil_append, List.cons_append]
  gi_wp2
  gi_loopw [3] (fun v wr => ∃ (t : ByteArray) (pre rest : List ByteArray) (k' : Nat), v = .string t ∧ Hid (L = pre ++ rest) ∧ Hid (lookup_seq.f k' t = some rest) ∧ J pre wr) (fun v _ => strLen v)
  case atStart => exact ⟨s, [], L, k, rfl, rfl, hL, h0⟩
  case round =>
    obtain ⟨t, pre, rest, k', rfl, hx, hr, hJs⟩ := hrel
    by_cases ht : t.toList = []
    · obtain rfl := lookup_seq.some_nil hr.out ht
      have HX : Hid (L = pre) := by have := hx.out; rwa [List.append_nil] at this
      have c0 : (t.toList == ([] : List UInt8)) = true := beq_iff_eq.2 ht
      have c1 : t.toList.isEmpty = true := List.isEmpty_iff.2 ht
      have c2 : (!t.toList.isEmpty) = false := by rw [c1]; rfl
      clear hr hx ht
      gi_wp2
      refine ⟨fun _ h => (by cases h), ?_⟩
      gi_wp2
      go_end0
      exact ⟨⟨_, rfl⟩, .inl ⟨_, HX.out.symm, hJs⟩⟩
    · obtain ⟨k2, t2, l2, e1, e2, e3, e4, e5⟩ := lookup_seq.some_cons hr.out ht
      have HX : Hid (L = pre ++ t :: l2) := by have := hx.out; rwa [e4] at this
      have hlen : pre ++ [t] <+: L := ⟨l2, by rw [HX.out]; simp⟩
      have c1 : t.toList.isEmpty = false := List.isEmpty_eq_false_iff.2 ht
      have c2 : (!t.toList.isEmpty) = true := by rw [c1]; rfl
      have c0 : (t.toList == ([] : List UInt8)) = false := beq_eq_false_iff_ne.2 ht
      obtain ⟨fn, tmps, assign, body, hy, hR⟩ := hY pre t wr hJs hlen
      have E1 := Lib.hid e1
      have E3 := Lib.hid e3
      clear hr hx ht e1 e3 e4 hlen
      gi_wp2
      refine hR.mono ?_
      rintro e W3 (⟨rfl, hJ3⟩ | ⟨rfl, hJx3⟩)
      · gi_wp2_with (refine ⟨trivial, ?_⟩; gi_at_call 25; refine (callsIn_wide.2 (split_Trim.calls k2 t t2 _ E1.out)).mono ?_; rintro e w' ⟨rfl, hd⟩)
        go_roundw
        case rel => exact ⟨t2, pre ++ [t], l2, k2, rfl, (by show L = _; rw [HX.out]; simp), E3, hJ _ _ _ none hJ3 (grownBy_below hd.below) (fun r h => by cases h)⟩
        case measure => simp [strLen]; omega
      · gi_wp2
        go_end0
        exact ⟨⟨_, rfl⟩, .inr ⟨pre ++ [t], ⟨l2, by rw [HX.out]; simp⟩, hJx3⟩⟩
theorem lookup_seq.sizes : ∀ {k : Nat} {s : ByteArray} {L : List ByteArray}, lookup_seq.f k s = some L → ∀ x ∈ L, x.size ≤ 140737488355328 := by
  intro k
  induction k with
  | zero => intro s L h; cases h
  | succ k ih =>
    intro s L h x hx
    rw [lookup_seq.f] at h
    by_cases hs : s.toList = []
    · rw [if_pos hs] at h
      obtain rfl := Option.some.inj h
      cases hx
    · rw [if_neg hs] at h
      by_cases h1 : s.size ≤ 140737488355328
      · rw [if_pos h1] at h
        obtain ⟨t, ht, h⟩ := Option.bind_eq_some_iff.1 h
        by_cases h2 : t.size < s.size
        · rw [if_pos h2] at h
          obtain ⟨l, hl, h⟩ := Option.bind_eq_some_iff.1 h
          obtain rfl := Option.some.inj h
          rcases List.mem_cons.1 hx with rfl | hx
          · exact h1
          · exact ih hl x hx
        · rw [if_neg h2] at h; cases h
      · rw [if_neg h1] at h; cases h
theorem seq_stops (n : Nat) (hn : 1 ≤ n) (B : Nat) (s : ByteArray) (k : Nat) (L : List ByteArray) (hL : lookup_seq.f k s = some L) (w : World) (hB : B < w.heap.size) (hc : w.cell? ⟨B, 0, none⟩ = some (.string s)) :
    SeqStopsK Fence.wide n Try.prog 24 #[.pointer (some ⟨B, 0, none⟩)] (fun x : {x // x ∈ L} => #[.string x.1]) (fun _ _ => True) (fun ys => ys.map (·.1) = L) (fun pre => pre.map (·.1) <+: L) L.length w := fun l J Jx W hW hJ _ hY h0 => by
  refine (seq1_in n hn l B s k L hL (fun pre W => ∃ p : List {x // x ∈ L}, p.map (·.1) = pre ∧ J p W) (fun pre W => ∃ p : List {x // x ∈ L}, p.map (·.1) = pre ∧ Jx p W) W ?_ ?_ W ((hW.cell (p := ⟨B, 0, none⟩) hB).trans hc) ⟨[], rfl, h0⟩).mono ?_
  · rintro pre A C row ⟨p, rfl, hj⟩ hg hr
    exact ⟨p, rfl, hJ _ _ _ _ hj hg hr⟩
  · rintro pre x W ⟨p, rfl, hj⟩ hp
    have hx : x ∈ L := hp.subset (by simp)
    have hl : p.length < L.length := by
      have := hp.length_le
      simp only [List.length_append, List.length_map, List.length_cons, List.length_nil] at this
      omega
    obtain ⟨fn, tmps, assign, body, hy, hR⟩ := hY p ⟨x, hx⟩ W hj hl
    refine ⟨fn, tmps, assign, body, hy, hR.mono ?_⟩
    rintro e W' (⟨he, hj', _⟩ | ⟨he, hj'⟩)
    · exact .inl ⟨he, p ++ [⟨x, hx⟩], by simp, hj'⟩
    · exact .inr ⟨he, p ++ [⟨x, hx⟩], by simp, hj'⟩
  · rintro e W' ⟨he, ⟨ys, rfl, p, hp, hj⟩ | ⟨pre, hpre, p, rfl, hj⟩⟩
    · exact ⟨he, .inl ⟨p, hp, hj⟩⟩
    · exact ⟨he, .inr ⟨p, hpre, hj⟩⟩
-- needs: 25
end

/-! ### ascii_each: function 37 (by hand) -/
-- (its contract stands in HandE)

/-! ### ascii_lower: function 39 -/
def ascii_lower.f (a0 : Int) : Option (Int) := if a0 ≥ 65 then (if a0 ≤ 90 then (some ((a0 + 32) % 256)) else (some a0)) else (some a0)
set_option maxHeartbeats 8000000 in
set_option maxRecDepth 100000 in
theorem ascii_lower.calls (a0 : Int) (r : Int) (w : World) (h : ascii_lower.f a0 = some r) :
  Calls Try.prog 39 #[.int .u8 a0] w fun e w' => e = .returned (.int .u8 r) ∧ Drawn0 w w' := by
 have H : (if a0 ≥ 65 then (if a0 ≤ 90 then (some ((a0 + 32) % 256)) else (some a0)) else (some a0)) = some r := h
 clear h
 by_cases c2 : a0 ≥ 65
 ·rw [if_pos c2] at H
  have c2b0 : decide (65 ≤ a0) = true := decide_eq_true c2
  clear c2
  by_cases c3 : a0 ≤ 90
  ·rw [if_pos c3] at H
   have c3b0 : decide (a0 ≤ 90) = true := decide_eq_true c3
   clear c3
   obtain rfl := Option.some.inj H
   go_enter Try.func39, Try.ntmps39
   go_wp2
   go_ret
   exact ⟨by first | rfl | (simp; done) | (simp [*]; done), by repeat (first | exact Drawn0.refl _ | apply Drawn0.step)⟩
  ·rw [if_neg c3] at H
   have c3b0 : decide (a0 ≤ 90) = false := decide_eq_false c3
   clear c3
   obtain rfl := Option.some.inj H
   go_enter Try.func39, Try.ntmps39
   go_wp2
   go_ret
   exact ⟨by first | rfl | (simp; done) | (simp [*]; done), by repeat (first | exact Drawn0.refl _ | apply Drawn0.step)⟩
 ·rw [if_neg c2] at H
  have c2b0 : decide (65 ≤ a0) = false := decide_eq_false c2
  clear c2
  obtain rfl := Option.some.inj H
  go_enter Try.func39, Try.ntmps39
  go_wp2
  go_ret
  exact ⟨by first | rfl | (simp; done) | (simp [*]; done), by repeat (first | exact Drawn0.refl _ | apply Drawn0.step)⟩

/-! ### ascii_Lower_1: function 38 -/
def ascii_Lower_1.f (a0 : Int) (a1 : Int) : Option (Int) := (ascii_lower.f a1).bind fun t103 => (some t103)
set_option maxHeartbeats 8000000 in
set_option maxRecDepth 100000 in
theorem ascii_Lower_1.calls (a0 : Int) (a1 : Int) (r : Int) (w : World) (h : ascii_Lower_1.f a0 a1 = some r) :
  Calls Try.prog 38 #[.int .i64 a0, .int .u8 a1] w fun e w' => e = .returned (.int .u8 r) ∧ Drawn0 w w' := by
 have H : ((ascii_lower.f a1).bind fun t103 => (some t103)) = some r := h
 clear h
 replace H := Option.bind_eq_some_iff.mp H
 obtain ⟨t103, A30, H⟩ := H
 replace H : (some t103) = some r := H
 have A3 := Aside0.mk A30
 clear A30
 obtain rfl := Option.some.inj H
 go_enter Try.func38, Try.ntmps38
 go_wp2_with (first | ((with_reducible refine gate_callee (f := 39) rfl ?_); refine goesL_ (some 6) rfl rfl Try.func39 (by kernel_rfl) rfl #[.int .u8 a1] rfl (by (try simp only [List.map_toArray, List.map_cons, List.map_nil]); first | done | rfl | (simp only [List.length_drop, List.length_take]; rfl)) ?_; (with_reducible refine (ascii_lower.calls a1 t103 _ A3.out).mono ?_); rintro e w' ⟨rfl, ⟨nd, rfl⟩⟩; refine ⟨_, rfl, ?_⟩))
 go_ret
 exact ⟨by first | rfl | (simp; done) | (simp [*]; done), by repeat (first | exact Drawn0.refl _ | apply Drawn0.step)⟩

/-! ### ascii_Lower: function 28 (by hand) -/
theorem ascii_Lower_byte (c : UInt8) : ascii_lower.f (c.toNat : Int) = some ((Iso.lowC c).toNat : Int) := by
  have hc := c.toNat_lt
  have e : (Iso.lowC c).toNat = if 65 ≤ c.toNat ∧ c.toNat ≤ 90 then c.toNat + 32 else c.toNat :=
    of_decide_eq_true (Iso.byte_all (fun c => decide ((Iso.lowC c).toNat = if 65 ≤ c.toNat ∧ c.toNat ≤ 90 then c.toNat + 32 else c.toNat)) (by decide +kernel) c)
  unfold ascii_lower.f
  rw [e]
  by_cases h : 65 ≤ c.toNat ∧ c.toNat ≤ 90
  · rw [if_pos (by omega), if_pos (by omega), if_pos h]; congr 1; omega
  · rw [if_neg h]; split
    · rw [if_neg (by omega)]
    · rfl
theorem ascii_Lower_1_calls (i : Nat) (c : UInt8) (W : World) : Calls Try.prog 38 #[.int .i64 i, .int .u8 c.toNat] W fun e w' => e = .returned (.int .u8 (Iso.lowC c).toNat) ∧ Below W.heap.size W w' := by
  have H := Lib.hid (ascii_Lower_byte c)
  go_enter Try.func38, Try.ntmps38
  go_wp2_with (go_at_call 39; refine (ascii_lower.calls _ _ _ H.out).mono ?_; rintro e w' ⟨rfl, hb⟩)
  go_ret
  exact ⟨rfl, hb.below⟩
def ascii_Lower.f (a0 : ByteArray) : Option ByteArray := if a0.size ≤ 140737488355328 then some (Iso.mk ((Iso.bl a0).mapIdx fun i c => Iso.lowC c)) else none
set_option maxHeartbeats 8000000 in
set_option maxRecDepth 100000 in
theorem ascii_Lower.calls (a0 : ByteArray) (r : ByteArray) (w : World) (h : ascii_Lower.f a0 = some r) :
    Calls Try.prog 28 #[.string a0] w fun e w' => e = .returned (.string r) ∧ Below w.heap.size w w' := by
  unfold ascii_Lower.f at h
  have hs : a0.size ≤ 140737488355328 := by
    by_cases c2 : a0.size ≤ 140737488355328
    · exact c2
    · rw [if_neg c2] at h; cases h
  rw [if_pos hs] at h
  obtain rfl := Option.some.inj h
  have HC := Lib.hid (fun W => each_calls 38 (fun i c => Iso.lowC c) (fun i c W => ascii_Lower_1_calls i c W) (enters_of Try.func38 (by kernel_rfl) rfl) a0 hs W)
  clear h
  go_enter Try.func28, Try.ntmps28
  go_wp2_with (go_at_call 37; refine (HC.out _).mono ?_; rintro e w' ⟨rfl, hb⟩)
  go_ret
  exact ⟨rfl, hb⟩

/-! ### lookup_places: function 26 (by hand) -/
section
open Go.Shelf Go.Proofs.Ytoigdaioghmlpaa
set_option linter.unusedVariables false
attribute [local go_sem] Oper.semAt_some
def lowL (p : ByteArray) : ByteArray := Iso.mk ((Iso.bl p).mapIdx fun i c => Iso.lowC c)
theorem lowL_size (p : ByteArray) : (lowL p).size = p.size := by unfold lowL; rw [Iso.mk_size, List.length_mapIdx, Iso.bl_len]
theorem lower_lowL (p : ByteArray) (h : p.size ≤ 140737488355328) : ascii_Lower.f p = some (lowL p) := by unfold ascii_Lower.f; rw [if_pos h]; rfl
def lkey (p : ByteArray) : Lit := .string (lowL p).data.toList
abbrev LkD := DataW Unit
def lnum (i : Nat) : LkD := .lit (.int .i64 (i : Int))
def placesGo : Nat → List ByteArray → LkD → LkD
  | _, [], D => D
  | i, t :: l, D => placesGo (i + 1) l (if Maps.has D (lkey t) then D else D.put (lkey t) (lnum i))
def placesOf (l : List ByteArray) : LkD := placesGo 0 l (.map [])
/-- The first text that is the same, by small letters. -/
def findT (l : List ByteArray) (x : ByteArray) : Option Nat := l.findIdx? fun t => decide ((lowL t).data.toList = (lowL x).data.toList)
theorem lkey_iff (t x : ByteArray) : ((lowL t).data.toList = (lowL x).data.toList) ↔ lkey t = lkey x := by
  unfold lkey; exact ⟨fun h => by rw [h], fun h => by injection h⟩
theorem findT_cons (t : ByteArray) (l : List ByteArray) (x : ByteArray) : (lkey t = lkey x → findT (t :: l) x = some 0) ∧ (¬ lkey t = lkey x → findT (t :: l) x = (findT l x).map (· + 1)) := by
  unfold findT
  rw [List.findIdx?_cons]
  refine ⟨fun h => ?_, fun h => ?_⟩
  · rw [decide_eq_true ((lkey_iff t x).2 h)]; rfl
  · rw [decide_eq_false fun e => h ((lkey_iff t x).1 e)]; rfl
theorem lkey_key (x : ByteArray) : WideAt.IsKeyLit (lkey x) := by unfold lkey; trivial
theorem placesGo_spec (x : ByteArray) : ∀ (l : List ByteArray) (i : Nat) (D : LkD), Maps.IsMap D →
    Maps.IsMap (placesGo i l D) ∧ (Maps.has (placesGo i l D) (lkey x) = (Maps.has D (lkey x) || (findT l x).isSome)) ∧
    (∀ z, (placesGo i l D).atKey (lkey x) z = if Maps.has D (lkey x) then D.atKey (lkey x) z else (findT l x).elim z fun j => lnum (i + j))
  | [], i, D, hD => by
    refine ⟨hD, by unfold placesGo findT; simp, fun z => ?_⟩
    by_cases h : Maps.has D (lkey x) = true
    · rw [if_pos h]; rfl
    · rw [if_neg h]
      exact Maps.atKey_of_not_has (D := D) (show Maps.has D (lkey x) = false from by simpa using h) z
  | t :: l, i, D, hD => by
    obtain ⟨h1, h2, h3⟩ := placesGo_spec x l (i + 1) (if Maps.has D (lkey t) then D else D.put (lkey t) (lnum i)) (by split; exact hD; exact hD.put _ _)
    unfold placesGo
    by_cases ht : Maps.has D (lkey t) = true
    · rw [if_pos ht] at h1 h2 h3 ⊢
      refine ⟨h1, ?_, fun z => ?_⟩
      · rw [h2]
        by_cases e : lkey t = lkey x
        · rw [e] at ht; rw [ht]; rfl
        · rw [(findT_cons t l x).2 e, Option.isSome_map]
      · rw [h3]
        by_cases hx : Maps.has D (lkey x) = true
        · rw [if_pos hx, if_pos hx]
        · rw [if_neg hx, if_neg hx]
          have e : ¬ lkey t = lkey x := fun e => hx (e ▸ ht)
          rw [(findT_cons t l x).2 e]
          cases findT l x with
          | none => rfl
          | some j => show lnum (i + 1 + j) = lnum (i + (j + 1)); congr 1; omega
    · rw [if_neg ht] at h1 h2 h3 ⊢
      refine ⟨h1, ?_, fun z => ?_⟩
      · rw [h2]
        by_cases e : lkey t = lkey x
        · rw [(findT_cons t l x).1 e, e, Maps.has_put_same hD (lkey_key x)]; simp
        · rw [Maps.has_put_other (fun h => e h.symm), (findT_cons t l x).2 e, Option.isSome_map]
      · rw [h3]
        by_cases e : lkey t = lkey x
        · have hx : ¬ Maps.has D (lkey x) = true := e ▸ ht
          rw [if_neg hx, (findT_cons t l x).1 e, e, if_pos (Maps.has_put_same hD (lkey_key x) _), Maps.atKey_put_same hD (lkey_key x)]
          rfl
        · have ho : Maps.has (D.put (lkey t) (lnum i)) (lkey x) = Maps.has D (lkey x) := Maps.has_put_other (fun h => e h.symm) _
          rw [ho]
          by_cases hx : Maps.has D (lkey x) = true
          · rw [if_pos hx, if_pos hx, Maps.atKey_put_other (fun h => e h.symm)]
          · rw [if_neg hx, if_neg hx, (findT_cons t l x).2 e]
            cases findT l x with
            | none => rfl
            | some j => show lnum (i + 1 + j) = lnum (i + (j + 1)); congr 1; omega
theorem placesOf_spec (l : List ByteArray) (x : ByteArray) : (Maps.has (placesOf l) (lkey x) = (findT l x).isSome) ∧ ∀ z, (placesOf l).atKey (lkey x) z = (findT l x).elim z lnum := by
  obtain ⟨_, h2, h3⟩ := placesGo_spec x l 0 (.map []) Maps.isMap_empty
  have h0 : Maps.has (.map [] : LkD) (lkey x) = false := rfl
  refine ⟨by unfold placesOf; rw [h2, h0, Bool.false_or], fun z => ?_⟩
  unfold placesOf
  rw [h3, h0]
  simp only [Bool.false_eq_true, ↓reduceIte, Nat.zero_add]
theorem zero3 (w : World) : (zeroValue 3).run Try.prog w = .ok (.int .i64 0) w := by first | exact Try.zeroValue3 w | kernel_rfl
set_option maxRecDepth 100000 in
set_option maxHeartbeats 4000000 in
theorem places_calls (A0 : Option Addr) (c0 : Nat) (l0 : List ByteArray) (w : World) (hr0 : Kd.C Kd.string w A0 l0.length l0) (hc0 : l0.length ≤ c0) (hs : ∀ t ∈ l0, t.size ≤ 140737488355328) (hl : l0.length ≤ 140737488355328) :
    Calls Try.prog 26 #[.slice A0 l0.length c0] w fun e w' => e = .returned (.map (some w.heap.size)) ∧ w'.ownsMap Try.prog 9 (plainElem Try.prog 3) w.heap.size l0.length (placesOf l0) ∧ Below w.heap.size w w' := by
  have hmm := @run_makeMap Try.prog
  have HS := Lib.hid hs
  have HR := Lib.hid hr0
  clear hs hr0
  go_enter Try.func26, Try.ntmps26
  go_wp2
  go_loopg [12] l0.length (fun kq v12 w' => ∃ (i : Nat) (D : LkD), v12 = .int .i64 i ∧ kq + i = l0.length ∧ Hid (placesGo i (l0.drop i) D = placesOf l0) ∧ Hid (w'.ownsMap Try.prog 9 (plainElem Try.prog 3) w.heap.size i D) ∧ Hid (Below w.heap.size w w'))
  case atStart => exact ⟨0, .map [], rfl, rfl, Lib.hid rfl, Lib.hid (World.ownsMap_made _ _ _ _), Lib.hid ((Below.refl _ w).alloc (Nat.le_refl _) _)⟩
  case round =>
    obtain ⟨i, D, rfl, hk, HP, HM, HB⟩ := hrel
    cases gk with
    | zero =>
      have c1 : decide ((i : Int) < (l0.length : Int)) = false := decide_eq_false (by omega)
      have hi : i = l0.length := by omega
      have hD : D = placesOf l0 := by have := HP.out; rw [hi, List.drop_length] at this; exact this
      go_wp2
      go_ret
      refine ⟨rfl, ?_, HB.out⟩
      have := HM.out
      rw [hi, hD] at this
      exact this
    | succ k1 =>
      have c1 : decide ((i : Int) < (l0.length : Int)) = true := decide_eq_true (by omega)
      have hi : i < l0.length := by omega
      obtain ⟨ad, hA, hx⟩ := Kd.at_string (Kd.C_below HR.out HB.out) (i : Int) (by omega) (by omega)
      have ht : rdOf ByteArray.empty l0 (i : Int) = l0[i] := by unfold rdOf; simp [hi]
      obtain ⟨t, hT⟩ : ∃ t, l0[i] = t := ⟨_, rfl⟩
      rw [ht, hT] at hx
      rw [Int.toNat_natCast] at hx
      have hts := HS.out t (by rw [← hT]; exact List.getElem_mem hi)
      have HL := Lib.hid (lower_lowL t hts)
      have hkey : keyOf Try.prog 9 (.string (lowL t)) = some (lkey t) := WideMaps.keyOf_string_mk Try.underlying9 (by rw [lowL_size]; unfold maxLen; omega)
      have hdrop : l0.drop i = t :: l0.drop (i + 1) := by rw [← hT]; exact List.drop_eq_getElem_cons hi
      have HP2 : Hid (placesGo (i + 1) (l0.drop (i + 1)) (if Maps.has D (lkey t) then D else D.put (lkey t) (lnum i)) = placesOf l0) := by
        have := HP.out; rw [hdrop] at this; exact this
      have HK := Lib.hid hkey
      have hw : wrap64 ((i : Int) + 1) = ((i + 1 : Nat) : Int) := by unfold wrap64; omega
      subst hA
      clear ht hT hdrop hkey HP hts
      have hwf : (Lit.int .i64 (i : Int)).wf = true := by simp [Lit.wf, IntKind.min, IntKind.max, IntKind.signed, IntKind.bits]; omega
      have HV := Lib.hid (plainElem_int (H := Unit) Try.underlying3 hwf)
      clear hwf
      cases hh : Maps.has D (lkey t) with
      | true =>
        rw [hh] at HP2
        have HH := Lib.hid hh
        go_wp2_with (first | (go_at_call 28; refine (ascii_Lower.calls _ _ _ HL.out).mono ?_; rintro e w2 ⟨rfl, hb⟩; have HM2 := Lib.hid (HM.out.kept (grownBy_below hb) (by simp)); have HB2 := Lib.hid (below_then HB.out HB.out.size hb)) | (at_lookup; refine wpList_lookup_own_ok_int _ rfl _ _ 44 rfl 9 3 .i64 (Maps.string_keyed Try.underlying9) Try.underlying44 Try.underlying3 (zero3 _) w.heap.size i D rfl HM2.out _ _ rfl HK.out ?_; intro c hat hwc; clear hat hwc))
        go_roundg k1
        case measure => omega
        case rel => exact ⟨i + 1, D, rfl, by omega, HP2, Lib.hid (HM2.out.mono (by omega)), HB2⟩
      | false =>
        rw [hh] at HP2
        have HH := Lib.hid hh
        go_wp2_with (first | (go_at_call 28; refine (ascii_Lower.calls _ _ _ HL.out).mono ?_; rintro e w2 ⟨rfl, hb⟩; have HM2 := Lib.hid (HM.out.kept (grownBy_below hb) (by simp)); have HB2 := Lib.hid (below_then HB.out HB.out.size hb)) | (at_lookup; refine wpList_lookup_own_ok_int _ rfl _ _ 44 rfl 9 3 .i64 (Maps.string_keyed Try.underlying9) Try.underlying44 Try.underlying3 (zero3 _) w.heap.size i D rfl HM2.out _ _ rfl HK.out ?_; intro c hat hwc; clear hat hwc) | (at_mapUpdate; refine wpList_mapUpdate_own _ rfl _ _ _ 44 rfl 9 3 (Maps.string_keyed Try.underlying9) Try.underlying44 _ w.heap.size i _ rfl HM2.out (by unfold maxLen; omega) _ _ _ rfl rfl HK.out _ [] HV.out ?_; intro w3 hown1 hgrow1; have HM3 := Lib.hid hown1; have HB3 := Lib.hid (HB2.out.grown hgrow1 HB2.out.size (fun k e => by cases e; exact Nat.le_refl _)); clear hown1 hgrow1))
        go_roundg k1
        case measure => omega
        case rel => exact ⟨i + 1, _, rfl, by omega, HP2, HM3, HB3⟩
end

/-! ### split_Each: function 43 (by hand) -/
-- (its contract stands in Hand1)

/-! ### filter_pieces: function 35 (by hand) -/
-- (its contract stands in HandF)

/-! ### ascii_kind: function 53 -/
mutual
def ascii_kind.j0 : Nat → Int → Bool → Option (Int)
 | 0, _, _ => none
 | k + 1, x0, x3 => if x3 = true then (some 1) else (if x0 ≥ 97 then (ascii_kind.j1 k x0 (decide (x0 ≤ 122))) else (ascii_kind.j1 k x0 false))
def ascii_kind.j1 : Nat → Int → Bool → Option (Int)
 | 0, _, _ => none
 | k + 1, x0, x10 => if x10 = true then (some 1) else (if x0 ≥ 48 then (if x0 ≤ 57 then (some 2) else (some 0)) else (some 0))
end
def ascii_kind.f (k : Nat) (a0 : Int) : Option (Int) := if a0 ≥ 65 then (ascii_kind.j0 k a0 (decide (a0 ≤ 90))) else (ascii_kind.j0 k a0 false)
theorem ascii_kind.mono_l : ∀ k, (∀ y0 y1, LeO (ascii_kind.j0 k y0 y1) (ascii_kind.j0 (k + 1) y0 y1)) ∧ (∀ y0 y1, LeO (ascii_kind.j1 k y0 y1) (ascii_kind.j1 (k + 1) y0 y1))
 | 0 => ⟨fun _ _ r h => by simp [ascii_kind.j0] at h, fun _ _ r h => by simp [ascii_kind.j1] at h⟩
 | k + 1 => by
  obtain ⟨ih0, ih1⟩ := ascii_kind.mono_l k
  refine ⟨?_, ?_⟩
  ·intro y0 y1
   unfold ascii_kind.j0
   repeat' first
   | (with_reducible exact ih0 _ _)
   | (with_reducible exact ih1 _ _)
   | (with_reducible exact LeO.refl _)
   | (with_reducible exact LeO.none _)
   | (with_reducible refine LeO.ite ?_ ?_)
   | (with_reducible refine LeO.bind ?_ (fun _ => ?_))
   | exact ih0 _ _
   | exact ih1 _ _
   | exact LeO.none _
   | refine LeO.ite ?_ ?_
   | refine LeO.bind ?_ (fun _ => ?_)
  ·intro y0 y1
   unfold ascii_kind.j1
   repeat' first
   | (with_reducible exact ih0 _ _)
   | (with_reducible exact ih1 _ _)
   | (with_reducible exact LeO.refl _)
   | (with_reducible exact LeO.none _)
   | (with_reducible refine LeO.ite ?_ ?_)
   | (with_reducible refine LeO.bind ?_ (fun _ => ?_))
   | exact ih0 _ _
   | exact ih1 _ _
   | exact LeO.none _
   | refine LeO.ite ?_ ?_
   | refine LeO.bind ?_ (fun _ => ?_)
theorem ascii_kind.mono : ∀ a0 k, LeO (ascii_kind.f k a0) (ascii_kind.f (k + 1) a0) := by
 intro a0 k
 obtain ⟨ih0, ih1⟩ := ascii_kind.mono_l k
 unfold ascii_kind.f
 repeat' first
   | (with_reducible exact ih0 _ _)
   | (with_reducible exact ih1 _ _)
   | (with_reducible exact LeO.refl _)
   | (with_reducible exact LeO.none _)
   | (with_reducible refine LeO.ite ?_ ?_)
   | (with_reducible refine LeO.bind ?_ (fun _ => ?_))
   | exact ih0 _ _
   | exact ih1 _ _
   | exact LeO.none _
   | refine LeO.ite ?_ ?_
   | refine LeO.bind ?_ (fun _ => ?_)
set_option maxHeartbeats 8000000 in
set_option maxRecDepth 100000 in
theorem ascii_kind.calls (k : Nat) (a0 : Int) (r : Int) (w : World) (h : ascii_kind.f k a0 = some r) :
  Calls Try.prog 53 #[.int .u8 a0] w fun e w' => e = .returned (.int .i64 r) ∧ Drawn0 w w' := by
 have H : (if a0 ≥ 65 then (ascii_kind.j0 k a0 (decide (a0 ≤ 90))) else (ascii_kind.j0 k a0 false)) = some r := h
 clear h
 have HC2 := Aside0.mk H
 clear H
 go_enter Try.func53, Try.ntmps53
 go_upto_region 1 with (fail)
 go_cut [3] (fun v3 wc => ∃ (kq : Nat) (x3_1 : Bool), v3 = .bool x3_1 ∧ Aside0 (ascii_kind.j0 kq a0 x3_1 = some r) ∧ Aside0 (kq ≤ k) ∧ Drawn0 w wc)
 case first =>
  have H := HC2.out
  clear HC2
  by_cases c3 : a0 ≥ 65
  ·rw [if_pos c3] at H
   have c3b0 : decide (65 ≤ a0) = true := decide_eq_true c3
   clear c3
   (first | rw [c3b0] | (simp only [i64_w, i32_w]; rw [c3b0]) | skip)
   have H' := Aside0.mk H
   clear H
   go_wp2
   go_meet
   case rel => exact ⟨_, (decide (a0 ≤ 90)), (by first | rfl | (simp; done) | (simp [*]; done)), H', ⟨by first | omega | exact Nat.le_refl _⟩, by repeat (first | exact Drawn0.refl _ | apply Drawn0.step)⟩
  ·rw [if_neg c3] at H
   have c3b0 : decide (65 ≤ a0) = false := decide_eq_false c3
   clear c3
   (first | rw [c3b0] | (simp only [i64_w, i32_w]; rw [c3b0]) | skip)
   have H' := Aside0.mk H
   clear H
   go_wp2
   go_meet
   case rel => exact ⟨_, (false), (by first | rfl | (simp; done) | (simp [*]; done)), H', ⟨by first | omega | exact Nat.le_refl _⟩, by repeat (first | exact Drawn0.refl _ | apply Drawn0.step)⟩
 case rest =>
  clear HC2
  try clear p2
  try clear c3
  try clear c3b0
  obtain ⟨kq, x3_1, rfl, HA, HJ1, ⟨mc1, rfl⟩⟩ := hcut
  cases kq with
  | zero => exact absurd HA.out (by simp [ascii_kind.j0])
  | succ kj1 =>
   have H := HA.out
   clear HA
   simp only [ascii_kind.j0] at H
   by_cases c4 : x3_1 = true
   ·subst c4
    have H1 : (some 1) = some r := by rw [if_pos rfl] at H; exact H
    clear H
    have H := H1
    clear H1
    obtain rfl := Option.some.inj H
    go_wp2
    go_ret
    exact ⟨by first | rfl | (simp; done) | (simp [*]; done), by repeat (first | exact Drawn0.refl _ | apply Drawn0.step)⟩
   ·replace c4 := Bool.eq_false_iff.mpr c4
    subst c4
    have H1 : (if a0 ≥ 97 then (ascii_kind.j1 kj1 a0 (decide (a0 ≤ 122))) else (ascii_kind.j1 kj1 a0 false)) = some r := by rw [if_neg (show ¬ (false = true) by decide)] at H; exact H
    clear H
    have H := H1
    clear H1
    have HC5 := Aside0.mk H
    clear H
    go_upto_region 2 with (fail)
    go_cut [10] (fun v10 wc => ∃ (kq : Nat) (x10_4 : Bool), v10 = .bool x10_4 ∧ Aside0 (ascii_kind.j1 kq a0 x10_4 = some r) ∧ Aside0 (kq ≤ kj1) ∧ Drawn0 w wc)
    case first =>
     have H := HC5.out
     clear HC5
     by_cases c6 : a0 ≥ 97
     ·rw [if_pos c6] at H
      have c6b0 : decide (97 ≤ a0) = true := decide_eq_true c6
      clear c6
      (first | rw [c6b0] | (simp only [i64_w, i32_w]; rw [c6b0]) | skip)
      have H' := Aside0.mk H
      clear H
      go_wp2
      go_meet
      case rel => exact ⟨_, (decide (a0 ≤ 122)), (by first | rfl | (simp; done) | (simp [*]; done)), H', ⟨by have := HJ1.out; first | omega | exact Nat.le_refl _⟩, by repeat (first | exact Drawn0.refl _ | apply Drawn0.step)⟩
     ·rw [if_neg c6] at H
      have c6b0 : decide (97 ≤ a0) = false := decide_eq_false c6
      clear c6
      (first | rw [c6b0] | (simp only [i64_w, i32_w]; rw [c6b0]) | skip)
      have H' := Aside0.mk H
      clear H
      go_wp2
      go_meet
      case rel => exact ⟨_, (false), (by first | rfl | (simp; done) | (simp [*]; done)), H', ⟨by have := HJ1.out; first | omega | exact Nat.le_refl _⟩, by repeat (first | exact Drawn0.refl _ | apply Drawn0.step)⟩
    case rest =>
     clear HC5
     try clear c1
     try clear p2
     try clear c3
     try clear c3b0
     try clear c4
     try clear c5
     try clear c6
     try clear c6b0
     try clear p2
     obtain ⟨kq, x10_4, rfl, HA, HJ4, ⟨mc4, rfl⟩⟩ := hcut
     cases kq with
     | zero => exact absurd HA.out (by simp [ascii_kind.j1])
     | succ kj4 =>
      have H := HA.out
      clear HA
      simp only [ascii_kind.j1] at H
      by_cases c7 : x10_4 = true
      ·subst c7
       have H1 : (some 1) = some r := by rw [if_pos rfl] at H; exact H
       clear H
       have H := H1
       clear H1
       obtain rfl := Option.some.inj H
       go_wp2
       go_ret
       exact ⟨by first | rfl | (simp; done) | (simp [*]; done), by repeat (first | exact Drawn0.refl _ | apply Drawn0.step)⟩
      ·replace c7 := Bool.eq_false_iff.mpr c7
       subst c7
       have H1 : (if a0 ≥ 48 then (if a0 ≤ 57 then (some 2) else (some 0)) else (some 0)) = some r := by rw [if_neg (show ¬ (false = true) by decide)] at H; exact H
       clear H
       have H := H1
       clear H1
       by_cases c8 : a0 ≥ 48
       ·rw [if_pos c8] at H
        have c8b0 : decide (48 ≤ a0) = true := decide_eq_true c8
        clear c8
        by_cases c9 : a0 ≤ 57
        ·rw [if_pos c9] at H
         have c9b0 : decide (a0 ≤ 57) = true := decide_eq_true c9
         clear c9
         obtain rfl := Option.some.inj H
         go_wp2
         go_ret
         exact ⟨by first | rfl | (simp; done) | (simp [*]; done), by repeat (first | exact Drawn0.refl _ | apply Drawn0.step)⟩
        ·rw [if_neg c9] at H
         have c9b0 : decide (a0 ≤ 57) = false := decide_eq_false c9
         clear c9
         obtain rfl := Option.some.inj H
         go_wp2
         go_ret
         exact ⟨by first | rfl | (simp; done) | (simp [*]; done), by repeat (first | exact Drawn0.refl _ | apply Drawn0.step)⟩
       ·rw [if_neg c8] at H
        have c8b0 : decide (48 ≤ a0) = false := decide_eq_false c8
        clear c8
        obtain rfl := Option.some.inj H
        go_wp2
        go_ret
        exact ⟨by first | rfl | (simp; done) | (simp [*]; done), by repeat (first | exact Drawn0.refl _ | apply Drawn0.step)⟩

/-! ### ascii_Class: function 51 -/
def ascii_Class.l0 : Nat → ByteArray → Int → Int → Int → Option (Int)
 | 0, _, _, _, _ => none
 | k + 1, x0, x3, x7, x8 => if x8 < x7 then (if 0 ≤ x8 then (if x8 < (x0.size : Int) then ((ascii_kind.f k (bt x0 x8)).bind fun t104 => (if t104 = 0 then (some 0) else (ascii_Class.l0 k x0 (Go.bits .or .i64 x3 t104) x7 (wrap64 (x8 + 1))))) else (none)) else (none)) else (some x3)
def ascii_Class.f (k : Nat) (a0 : ByteArray) : Option (Int) := ascii_Class.l0 k a0 0 (a0.size : Int) 0
theorem ascii_Class.mono_l : ∀ k, (∀ y0 y1 y2 y3, LeO (ascii_Class.l0 k y0 y1 y2 y3) (ascii_Class.l0 (k + 1) y0 y1 y2 y3))
 | 0 => fun _ _ _ _ r h => by simp [ascii_Class.l0] at h
 | k + 1 => by
  have ih0 := ascii_Class.mono_l k
  ·intro y0 y1 y2 y3
   unfold ascii_Class.l0
   repeat' first
   | (with_reducible exact ih0 _ _ _ _)
   | (with_reducible exact ascii_kind.mono _ _)
   | (with_reducible exact LeO.refl _)
   | (with_reducible exact LeO.none _)
   | (with_reducible refine LeO.ite ?_ ?_)
   | (with_reducible refine LeO.bind ?_ (fun _ => ?_))
   | exact ih0 _ _ _ _
   | exact ascii_kind.mono _ _
   | exact LeO.none _
   | refine LeO.ite ?_ ?_
   | refine LeO.bind ?_ (fun _ => ?_)
theorem ascii_Class.mono : ∀ a0 k, LeO (ascii_Class.f k a0) (ascii_Class.f (k + 1) a0) := by
 intro a0 k
 have ih0 := ascii_Class.mono_l k
 unfold ascii_Class.f
 repeat' first
   | (with_reducible exact ih0 _ _ _ _)
   | (with_reducible exact ascii_kind.mono _ _)
   | (with_reducible exact LeO.refl _)
   | (with_reducible exact LeO.none _)
   | (with_reducible refine LeO.ite ?_ ?_)
   | (with_reducible refine LeO.bind ?_ (fun _ => ?_))
   | exact ih0 _ _ _ _
   | exact ascii_kind.mono _ _
   | exact LeO.none _
   | refine LeO.ite ?_ ?_
   | refine LeO.bind ?_ (fun _ => ?_)
set_option maxHeartbeats 8000000 in
set_option maxRecDepth 100000 in
theorem ascii_Class.calls (k : Nat) (a0 : ByteArray) (r : Int) (w : World) (h : ascii_Class.f k a0 = some r) :
  Calls Try.prog 51 #[.string a0] w fun e w' => e = .returned (.int .i64 r) ∧ Drawn0 w w' := by
 have H : (ascii_Class.l0 k a0 0 (a0.size : Int) 0) = some r := h
 clear h
 have H' := Aside0.mk H
 clear H
 go_enter Try.func51, Try.ntmps51
 go_wp2
 go_loopg [3, 8] k (fun kq v3 v8 w' => ∃ (x3_1 : Int) (x8_1 : Int), v3 = .int .i64 x3_1 ∧ v8 = .int .i64 x8_1 ∧ Aside0 (ascii_Class.l0 kq a0 x3_1 (a0.size : Int) x8_1 = some r) ∧ Aside0 (kq ≤ k) ∧ Drawn0 w w')
 case atStart => exact ⟨(0), (0), (by first | rfl | (simp; done) | (simp [*]; done)), (by first | rfl | (simp; done) | (simp [*]; done)), H', ⟨Nat.le_refl _⟩, by repeat (first | exact Drawn0.refl _ | apply Drawn0.step)⟩
 case round =>
  clear H'
  obtain ⟨x3_1, x8_1, rfl, rfl, HA, HK1, ⟨m1, rfl⟩⟩ := hrel
  cases gk with
  | zero => exact absurd HA.out (by simp [ascii_Class.l0])
  | succ k1 =>
   have H := HA.out
   clear HA
   simp only [ascii_Class.l0] at H
   by_cases c2 : x8_1 < (a0.size : Int)
   ·rw [if_pos c2] at H
    have c2b0 : decide (x8_1 < (a0.size : Int)) = true := decide_eq_true c2
    clear c2
    by_cases c3 : 0 ≤ x8_1
    ·rw [if_pos c3] at H
     have c3b0 : decide (0 ≤ x8_1) = true := decide_eq_true c3
     clear c3
     by_cases c4 : x8_1 < (a0.size : Int)
     ·rw [if_pos c4] at H
      have c4b0 : decide (x8_1 < (a0.size : Int)) = true := decide_eq_true c4
      clear c4
      replace H := Option.bind_eq_some_iff.mp H
      obtain ⟨t104, A60, H⟩ := H
      replace H : (if t104 = 0 then (some 0) else (ascii_Class.l0 k1 a0 (Go.bits .or .i64 x3_1 t104) (a0.size : Int) (wrap64 (x8_1 + 1)))) = some r := H
      have A6 := Aside0.mk A60
      clear A60
      by_cases c7 : t104 = 0
      ·rw [if_pos c7] at H
       have c7b0 : (t104 == 0) = true := beq_iff_eq.mpr c7
       have c7b1 : (t104 != 0) = false := bne_eq_false_iff_eq.mpr c7
       clear c7
       obtain rfl := Option.some.inj H
       have p5 : 0 ≤ (x8_1 : Int) := of_decide_eq_true (by first | (with_reducible assumption) | assumption)
       have q5 : x8_1 < (a0.size : Int) := of_decide_eq_true (by first | (with_reducible assumption) | assumption)
       have hx5 := bt_at a0 x8_1
       replace p5 := eq_true p5
       replace q5 := eq_true q5
       go_wp2_with (first | ((with_reducible refine gate_callee (f := 53) rfl ?_); refine goesL_ (some 14) rfl rfl Try.func53 (by kernel_rfl) rfl #[.int .u8 (bt a0 x8_1)] rfl (by (try simp only [List.map_toArray, List.map_cons, List.map_nil]); first | done | rfl | (simp only [List.length_drop, List.length_take]; rfl)) ?_; (with_reducible refine (ascii_kind.calls k1 (bt a0 x8_1) t104 _ A6.out).mono ?_); rintro e w' ⟨rfl, ⟨nd, rfl⟩⟩; refine ⟨_, rfl, ?_⟩))
       go_ret
       exact ⟨by first | rfl | (simp; done) | (simp [*]; done), by repeat (first | exact Drawn0.refl _ | apply Drawn0.step)⟩
      ·rw [if_neg c7] at H
       have c7b0 : (t104 == 0) = false := beq_eq_false_iff_ne.mpr c7
       have c7b1 : (t104 != 0) = true := bne_iff_ne.mpr c7
       have H' := Aside0.mk H
       clear H
       have p5 : 0 ≤ (x8_1 : Int) := of_decide_eq_true (by first | (with_reducible assumption) | assumption)
       have q5 : x8_1 < (a0.size : Int) := of_decide_eq_true (by first | (with_reducible assumption) | assumption)
       have hx5 := bt_at a0 x8_1
       replace p5 := eq_true p5
       replace q5 := eq_true q5
       go_wp2_with (first | ((with_reducible refine gate_callee (f := 53) rfl ?_); refine goesL_ (some 14) rfl rfl Try.func53 (by kernel_rfl) rfl #[.int .u8 (bt a0 x8_1)] rfl (by (try simp only [List.map_toArray, List.map_cons, List.map_nil]); first | done | rfl | (simp only [List.length_drop, List.length_take]; rfl)) ?_; (with_reducible refine (ascii_kind.calls k1 (bt a0 x8_1) t104 _ A6.out).mono ?_); rintro e w' ⟨rfl, ⟨nd, rfl⟩⟩; refine ⟨_, rfl, ?_⟩))
       go_roundg k1
       case measure => have := HK1.out; omega
       case rel => exact ⟨(Go.bits .or .i64 x3_1 t104), (wrap64 (x8_1 + 1)), (by first | rfl | (simp; done) | (simp [*]; done)), (by first | rfl | (simp; done) | (simp [*]; done)), H', ⟨by have := HK1.out; omega⟩, by repeat (first | exact Drawn0.refl _ | apply Drawn0.step)⟩
     ·rw [if_neg c4] at H
      exact absurd H (by simp)
    ·rw [if_neg c3] at H
     exact absurd H (by simp)
   ·rw [if_neg c2] at H
    have c2b0 : decide (x8_1 < (a0.size : Int)) = false := decide_eq_false c2
    clear c2
    obtain rfl := Option.some.inj H
    go_wp2
    go_ret
    exact ⟨by first | rfl | (simp; done) | (simp [*]; done), by repeat (first | exact Drawn0.refl _ | apply Drawn0.step)⟩

/-! ### ascii_Alpha: function 44 -/
def ascii_Alpha.f (k : Nat) (a0 : ByteArray) : Option (Bool) := (ascii_Class.f k a0).bind fun t105 => (some (t105 == 1))
theorem ascii_Alpha.mono : ∀ a0 k, LeO (ascii_Alpha.f k a0) (ascii_Alpha.f (k + 1) a0) := by
 intro a0 k
 unfold ascii_Alpha.f
 repeat' first
   | (with_reducible exact ascii_Class.mono _ _)
   | (with_reducible exact LeO.refl _)
   | (with_reducible exact LeO.none _)
   | (with_reducible refine LeO.ite ?_ ?_)
   | (with_reducible refine LeO.bind ?_ (fun _ => ?_))
   | exact ascii_Class.mono _ _
   | exact LeO.none _
   | refine LeO.ite ?_ ?_
   | refine LeO.bind ?_ (fun _ => ?_)
set_option maxHeartbeats 8000000 in
set_option maxRecDepth 100000 in
theorem ascii_Alpha.calls (k : Nat) (a0 : ByteArray) (r : Bool) (w : World) (h : ascii_Alpha.f k a0 = some r) :
  Calls Try.prog 44 #[.string a0] w fun e w' => e = .returned (.bool r) ∧ Drawn0 w w' := by
 have H : ((ascii_Class.f k a0).bind fun t105 => (some (t105 == 1))) = some r := h
 clear h
 replace H := Option.bind_eq_some_iff.mp H
 obtain ⟨t105, A20, H⟩ := H
 replace H : (some (t105 == 1)) = some r := H
 have A2 := Aside0.mk A20
 clear A20
 obtain rfl := Option.some.inj H
 go_enter Try.func44, Try.ntmps44
 go_wp2_with (first | ((with_reducible refine gate_callee (f := 51) rfl ?_); refine goesL_ (some 4) rfl rfl Try.func51 (by kernel_rfl) rfl #[.string a0] rfl (by (try simp only [List.map_toArray, List.map_cons, List.map_nil]); first | done | rfl | (simp only [List.length_drop, List.length_take]; rfl)) ?_; (with_reducible refine (ascii_Class.calls k a0 t105 _ A2.out).mono ?_); rintro e w' ⟨rfl, ⟨nd, rfl⟩⟩; refine ⟨_, rfl, ?_⟩))
 go_ret
 exact ⟨by first | rfl | (simp; done) | (simp [*]; done), by repeat (first | exact Drawn0.refl _ | apply Drawn0.step)⟩

/-! ### ascii_Alnum: function 45 -/
def ascii_Alnum.f (k : Nat) (a0 : ByteArray) : Option (Bool) := (ascii_Class.f k a0).bind fun t106 => (some (t106 != 0))
theorem ascii_Alnum.mono : ∀ a0 k, LeO (ascii_Alnum.f k a0) (ascii_Alnum.f (k + 1) a0) := by
 intro a0 k
 unfold ascii_Alnum.f
 repeat' first
   | (with_reducible exact ascii_Class.mono _ _)
   | (with_reducible exact LeO.refl _)
   | (with_reducible exact LeO.none _)
   | (with_reducible refine LeO.ite ?_ ?_)
   | (with_reducible refine LeO.bind ?_ (fun _ => ?_))
   | exact ascii_Class.mono _ _
   | exact LeO.none _
   | refine LeO.ite ?_ ?_
   | refine LeO.bind ?_ (fun _ => ?_)
set_option maxHeartbeats 8000000 in
set_option maxRecDepth 100000 in
theorem ascii_Alnum.calls (k : Nat) (a0 : ByteArray) (r : Bool) (w : World) (h : ascii_Alnum.f k a0 = some r) :
  Calls Try.prog 45 #[.string a0] w fun e w' => e = .returned (.bool r) ∧ Drawn0 w w' := by
 have H : ((ascii_Class.f k a0).bind fun t106 => (some (t106 != 0))) = some r := h
 clear h
 replace H := Option.bind_eq_some_iff.mp H
 obtain ⟨t106, A20, H⟩ := H
 replace H : (some (t106 != 0)) = some r := H
 have A2 := Aside0.mk A20
 clear A20
 obtain rfl := Option.some.inj H
 go_enter Try.func45, Try.ntmps45
 go_wp2_with (first | ((with_reducible refine gate_callee (f := 51) rfl ?_); refine goesL_ (some 4) rfl rfl Try.func51 (by kernel_rfl) rfl #[.string a0] rfl (by (try simp only [List.map_toArray, List.map_cons, List.map_nil]); first | done | rfl | (simp only [List.length_drop, List.length_take]; rfl)) ?_; (with_reducible refine (ascii_Class.calls k a0 t106 _ A2.out).mono ?_); rintro e w' ⟨rfl, ⟨nd, rfl⟩⟩; refine ⟨_, rfl, ?_⟩))
 go_ret
 exact ⟨by first | rfl | (simp; done) | (simp [*]; done), by repeat (first | exact Drawn0.refl _ | apply Drawn0.step)⟩

/-! ### filter_word: function 36 -/
def filter_word.f (k : Nat) (a0 : Int) (a1 : ByteArray) : Option (Bool) := if (a1.size : Int) ≤ 8 then ((ascii_Alpha.f k a1).bind fun t107 => (if t107 = true then (some true) else (if a0 > 0 then ((ascii_Alnum.f k a1).bind fun t108 => (some t108)) else (some false)))) else (some false)
theorem filter_word.mono : ∀ a0 a1 k, LeO (filter_word.f k a0 a1) (filter_word.f (k + 1) a0 a1) := by
 intro a0 a1 k
 unfold filter_word.f
 repeat' first
   | (with_reducible exact ascii_Alnum.mono _ _)
   | (with_reducible exact ascii_Alpha.mono _ _)
   | (with_reducible exact LeO.refl _)
   | (with_reducible exact LeO.none _)
   | (with_reducible refine LeO.ite ?_ ?_)
   | (with_reducible refine LeO.bind ?_ (fun _ => ?_))
   | exact ascii_Alnum.mono _ _
   | exact ascii_Alpha.mono _ _
   | exact LeO.none _
   | refine LeO.ite ?_ ?_
   | refine LeO.bind ?_ (fun _ => ?_)
set_option maxHeartbeats 8000000 in
set_option maxRecDepth 100000 in
theorem filter_word.calls (k : Nat) (a0 : Int) (a1 : ByteArray) (r : Bool) (w : World) (h : filter_word.f k a0 a1 = some r) :
  Calls Try.prog 36 #[.int .i64 a0, .string a1] w fun e w' => e = .returned (.bool r) ∧ Drawn0 w w' := by
 have H : (if (a1.size : Int) ≤ 8 then ((ascii_Alpha.f k a1).bind fun t107 => (if t107 = true then (some true) else (if a0 > 0 then ((ascii_Alnum.f k a1).bind fun t108 => (some t108)) else (some false)))) else (some false)) = some r := h
 clear h
 by_cases c3 : (a1.size : Int) ≤ 8
 ·rw [if_pos c3] at H
  have c3b0 : decide ((a1.size : Int) ≤ 8) = true := decide_eq_true c3
  have c3b1 : decide (a1.size ≤ 8) = true := decide_eq_true (by omega)
  clear c3
  replace H := Option.bind_eq_some_iff.mp H
  obtain ⟨t107, A40, H⟩ := H
  replace H : (if t107 = true then (some true) else (if a0 > 0 then ((ascii_Alnum.f k a1).bind fun t108 => (some t108)) else (some false))) = some r := H
  have A4 := Aside0.mk A40
  clear A40
  by_cases c5 : t107 = true
  ·subst c5
   have H1 : (some true) = some r := by rw [if_pos rfl] at H; exact H
   clear H
   have H := H1
   clear H1
   obtain rfl := Option.some.inj H
   go_enter Try.func36, Try.ntmps36
   go_wp2_with (first | (go_at_call 44; (with_reducible refine (ascii_Alpha.calls k a1 true _ A4.out).mono ?_); rintro e w' ⟨rfl, ⟨nd, rfl⟩⟩))
   go_ret
   exact ⟨by first | rfl | (simp; done) | (simp [*]; done), by repeat (first | exact Drawn0.refl _ | apply Drawn0.step)⟩
  ·replace c5 := Bool.eq_false_iff.mpr c5
   subst c5
   have H1 : (if a0 > 0 then ((ascii_Alnum.f k a1).bind fun t108 => (some t108)) else (some false)) = some r := by rw [if_neg (show ¬ (false = true) by decide)] at H; exact H
   clear H
   have H := H1
   clear H1
   by_cases c6 : a0 > 0
   ·rw [if_pos c6] at H
    have c6b0 : decide (0 < a0) = true := decide_eq_true c6
    clear c6
    replace H := Option.bind_eq_some_iff.mp H
    obtain ⟨t108, A70, H⟩ := H
    replace H : (some t108) = some r := H
    have A7 := Aside0.mk A70
    clear A70
    obtain rfl := Option.some.inj H
    go_enter Try.func36, Try.ntmps36
    go_wp2_with (first | (go_at_call 44; (with_reducible refine (ascii_Alpha.calls k a1 false _ A4.out).mono ?_); rintro e w' ⟨rfl, ⟨nd, rfl⟩⟩) | (go_at_call 45; (with_reducible refine (ascii_Alnum.calls k a1 t108 _ A7.out).mono ?_); rintro e w' ⟨rfl, ⟨nd, rfl⟩⟩))
    go_ret
    exact ⟨by first | rfl | (simp; done) | (simp [*]; done), by repeat (first | exact Drawn0.refl _ | apply Drawn0.step)⟩
   ·rw [if_neg c6] at H
    have c6b0 : decide (0 < a0) = false := decide_eq_false c6
    clear c6
    obtain rfl := Option.some.inj H
    go_enter Try.func36, Try.ntmps36
    go_wp2_with (first | (go_at_call 44; (with_reducible refine (ascii_Alpha.calls k a1 false _ A4.out).mono ?_); rintro e w' ⟨rfl, ⟨nd, rfl⟩⟩))
    go_ret
    exact ⟨by first | rfl | (simp; done) | (simp [*]; done), by repeat (first | exact Drawn0.refl _ | apply Drawn0.step)⟩
 ·rw [if_neg c3] at H
  have c3b0 : decide ((a1.size : Int) ≤ 8) = false := decide_eq_false c3
  have c3b1 : decide (a1.size ≤ 8) = false := decide_eq_false (by omega)
  clear c3
  obtain rfl := Option.some.inj H
  go_enter Try.func36, Try.ntmps36
  go_wp2
  go_ret
  exact ⟨by first | rfl | (simp; done) | (simp [*]; done), by repeat (first | exact Drawn0.refl _ | apply Drawn0.step)⟩

/-! ### filter_Basic: function 27 (by hand) -/
def filter_Basic.f (k : Nat) (a0 : ByteArray) : Option (Bool) := if a0.toList = ([42] : List UInt8) then some true else if a0.size < 140737488355329 then allP (fun at_ p => filter_word.f k at_ p) (eachB a0) else none
theorem filter_Basic.mono : ∀ a0 k, LeO (filter_Basic.f k a0) (filter_Basic.f (k + 1) a0) := by
  intro a0 k
  unfold filter_Basic.f
  exact LeO.ite (LeO.refl _) (LeO.ite (allP_mono (fun a s => filter_word.mono a s k) _) (LeO.none _))
set_option maxHeartbeats 8000000 in
set_option maxRecDepth 100000 in
theorem filter_Basic.calls (k : Nat) (a0 : ByteArray) (r : Bool) (w : World) (h : filter_Basic.f k a0 = some r) :
    Calls Try.prog 27 #[.string a0] w fun e w' => e = .returned (.bool r) ∧ Below w.heap.size w w' := by
  unfold filter_Basic.f at h
  by_cases c : a0.toList = ([42] : List UInt8)
  · rw [if_pos c] at h
    obtain rfl := Option.some.inj h
    have cb : (a0.toList == ([42] : List UInt8)) = true := beq_iff_eq.mpr c
    clear h c
    go_enter Try.func27, Try.ntmps27
    go_wp2
    go_ret
    exact ⟨rfl, Below.refl _ _⟩
  · rw [if_neg c] at h
    have cb : (a0.toList == ([42] : List UInt8)) = false := beq_eq_false_iff_ne.mpr c
    have hs : a0.size < 140737488355329 := by
      by_cases c2 : a0.size < 140737488355329
      · exact c2
      · rw [if_neg c2] at h; cases h
    rw [if_pos hs] at h
    have C := fun W => pieces_calls 36 (fun at_ p => filter_word.f k at_ p) (fun at_ p r W hq => (filter_word.calls k at_ p r W hq).mono fun e w' ⟨he, hd⟩ => ⟨he, hd.below⟩) (enters_of Try.func36 (by kernel_rfl) rfl) a0 (by omega) r h W
    have HC := Lib.hid C
    clear C h c
    go_enter Try.func27, Try.ntmps27
    go_wp2_with (go_at_call 35; refine (HC.out _).mono ?_; rintro e w' ⟨rfl, hb⟩)
    go_ret
    exact ⟨rfl, hb⟩

/-! ### lookup_Which: function 15 (by hand) -/
section
open Go.Shelf Go.Proofs.Ytoigdaioghmlpaa
set_option linter.unusedVariables false
attribute [local go_sem] Oper.semAt_some
/-! ### marks of loops that are over -/
def Marks (n₀ : Nat) (W : World) : List Deferred → Prop
  | [] => True
  | d :: ds => (∃ r, d = { target := .collected r, args := #[] } ∧ n₀ ≤ r ∧ W.heap[r]? = some (.deferred (some [])) ∧ ∀ d' ∈ ds, ∃ q, d' = { target := .collected q, args := #[] } ∧ q < r) ∧ Marks n₀ W ds
theorem Marks.same {n₀ : Nat} {W W' : World} : ∀ {ds : List Deferred}, Marks n₀ W ds → (∀ r, n₀ ≤ r → W.heap[r]? = some (.deferred (some [])) → ({ target := .collected r, args := #[] } : Deferred) ∈ ds → W'.heap[r]? = some (.deferred (some []))) → Marks n₀ W' ds
  | [], _, _ => trivial
  | d :: ds, h, hk => by
    obtain ⟨⟨r, rfl, h1, h2, h3⟩, h4⟩ := h
    exact ⟨⟨r, rfl, h1, hk r h1 h2 (by simp), h3⟩, h4.same fun q hq1 hq2 hq3 => hk q hq1 hq2 (List.mem_cons_of_mem _ hq3)⟩
theorem Marks.below {n₀ : Nat} {W W' : World} {ds : List Deferred} (h : Marks n₀ W ds) (hb : Below W.heap.size W W') : Marks n₀ W' ds :=
  h.same fun r _ h2 _ => (hb.block r (Array.getElem?_eq_some_iff.1 h2).1).trans h2
theorem Marks.keeps {n₀ : Nat} {W W' : World} {ds : List Deferred} (h : Marks n₀ W ds) (hb : KeepsOthers W W') : Marks n₀ W' ds :=
  h.same fun r _ h2 _ => hb.same r _ h2 rfl
theorem Marks.cons {n₀ : Nat} {W : World} {ds : List Deferred} (h : Marks n₀ W ds) {D : Nat} (hD : n₀ ≤ D) (hw : W.heap[D]? = some (.deferred (some []))) (hlt : ∀ d' ∈ ds, ∃ q, d' = { target := .collected q, args := #[] } ∧ q < D) : Marks n₀ W ({ target := .collected D, args := #[] } :: ds) :=
  ⟨⟨D, rfl, hD, hw, hlt⟩, h⟩
theorem Marks.lt {n₀ : Nat} {W : World} : ∀ {ds : List Deferred}, Marks n₀ W ds → ∀ d' ∈ ds, ∃ q, d' = ({ target := .collected q, args := #[] } : Deferred) ∧ q < W.heap.size
  | [], _, d', hd => by cases hd
  | d :: ds, h, d', hd => by
    obtain ⟨⟨r, rfl, h1, h2, h3⟩, h4⟩ := h
    rcases List.mem_cons.1 hd with rfl | hd
    · exact ⟨r, rfl, (Array.getElem?_eq_some_iff.1 h2).1⟩
    · exact h4.lt d' hd
theorem ownFrom_marks {β : Type} {n₀ B : Nat} {ds : List Deferred} (hlt : ∀ d' ∈ ds, ∃ q, d' = ({ target := .collected q, args := #[] } : Deferred) ∧ q < B) : OwnFrom B (fun (_ : β) W => Marks n₀ W ds) :=
  fun s W W' row hs hg hr => hs.same fun r _ h2 h3 => by
    obtain ⟨q, hq, hlt⟩ := hlt _ h3
    obtain rfl : r = q := by injection hq with h1; injection h1
    exact (hg.block r (Array.getElem?_eq_some_iff.1 h2).1 (fun e => by have := (hr r e.symm).1; omega)).trans h2
theorem leaves_marks {F : Fence} {n : Nat} {P : Program} {fn : Func} {tmps : Array Value} {R : Ending → World → Prop} {n₀ : Nat} : ∀ (ds : List Deferred) (W : World), Marks n₀ W ds →
    (∀ W', Below n₀ W W' → LeavesIn F n P fn tmps R [] .returning W') → LeavesInM F n P fn tmps R ds .returning W
  | [], W, _, h => h W (Below.refl _ _)
  | d :: ds, W, hm, h => by
    obtain ⟨⟨r, rfl, h1, h2, h3⟩, h4⟩ := hm
    refine ⟨by simp, .inl ⟨r, _, rfl, run_takeDeferred h2, ?_⟩⟩
    have hb : Below n₀ W (W.putObj r (.deferred none)) := (Below.refl n₀ W).grown (grownBy_putObj' W r (.deferred none)) (by have := (Array.getElem?_eq_some_iff.1 h2).1; omega) (fun k e => by cases e; exact h1)
    refine leaves_marks ds _ (h4.same fun q _ hq hd => ?_) fun W' hb' => h W' (hb.trans hb')
    obtain ⟨q', hq', hlt⟩ := h3 _ hd
    obtain rfl : q = q' := by injection hq' with e1; injection e1
    exact (World.putObj_heap_other (by omega)).trans hq
theorem look_run (W : World) (b n : Nat) (l : List ByteArray) (x : ByteArray) (hx : x.size ≤ 140737488355328) (hm : W.ownsMap Try.prog 9 (plainElem Try.prog 3) b n (placesOf l)) :
    (Instr.lookup 44 (.map (some b)) (.string (lowL x)) true).run Try.prog W = .ok (.tuple #[.int .i64 (((findT l x).getD 0 : Nat) : Int), .bool (findT l x).isSome]) W := by
  have hkey : keyOf Try.prog 9 (.string (lowL x)) = some (lkey x) := WideMaps.keyOf_string_mk Try.underlying9 (by rw [lowL_size]; unfold maxLen; omega)
  obtain ⟨v, ps, hrun, hv⟩ := hm.look_ok (Maps.string_keyed Try.underlying9) Try.underlying44 (zero3 W) (plainElem_int Try.underlying3 (by decide)) hkey
  obtain ⟨h1, h2⟩ := placesOf_spec l x
  rw [h2] at hv
  rw [h1] at hrun
  obtain ⟨c, rfl, hc, hwc⟩ := plainElem_int_inv Try.underlying3 hv
  rw [hrun]
  have e : c = (((findT l x).getD 0 : Nat) : Int) := by
    have := congrArg Prod.fst hc
    cases hf : findT l x with
    | none => rw [hf] at this; simp [Option.elim] at this; simpa using this.symm
    | some j => rw [hf] at this; simp [Option.elim, lnum] at this; simpa using this.symm
  rw [e]
def lookup_Which.go (k : Nat) (tags : List ByteArray) : Nat → List ByteArray → Option (Int × Int × Bool)
  | _, [] => some (0, 0, false)
  | i, r :: rs => if r.toList = ([42] : List UInt8) then lookup_Which.go k tags (i + 1) rs else (filter_Basic.f k r).bind fun b => if b = true then (lookup_seq.f k r).bind fun L => (match L.findSome? (findT tags) with
      | some j => some ((i : Int), (j : Int), true)
      | none => lookup_Which.go k tags (i + 1) rs) else lookup_Which.go k tags (i + 1) rs
def lookup_Which.f (k : Nat) (l0 l1 : List ByteArray) : Option (Int × Int × Bool) := if (∀ t ∈ l1, t.size ≤ 140737488355328) ∧ l1.length ≤ 140737488355328 ∧ l0.length ≤ 140737488355328 then lookup_Which.go k l1 0 l0 else none
theorem lookup_Which.mono_go (k : Nat) (tags : List ByteArray) : ∀ (rs : List ByteArray) (i : Nat), LeO (lookup_Which.go k tags i rs) (lookup_Which.go (k + 1) tags i rs)
  | [], _ => LeO.refl _
  | r :: rs, i => by
    unfold lookup_Which.go
    refine LeO.ite (mono_go k tags rs (i + 1)) (LeO.bind (filter_Basic.mono r k) fun b => LeO.ite (LeO.bind (lookup_seq.mono r k) fun L => ?_) (mono_go k tags rs (i + 1)))
    cases L.findSome? (findT tags) with
    | some j => exact LeO.refl _
    | none => exact mono_go k tags rs (i + 1)
theorem lookup_Which.mono : ∀ l0 l1 k, LeO (lookup_Which.f k l0 l1) (lookup_Which.f (k + 1) l0 l1) := fun l0 l1 k => by
  unfold lookup_Which.f
  exact LeO.ite (mono_go k l1 l0 0) (LeO.none _)
/-- What holds between two ranges. -/
structure WI (w W : World) (B1 n : Nat) (l : List ByteArray) (ds : List Deferred) : Prop where
  all : Boxed W B1 44 (.map (some w.heap.size))
  r : Boxed W (B1 + 1) 3 (.int .i64 0)
  t : Boxed W (B1 + 1 + 1) 3 (.int .i64 0)
  f : Boxed W (B1 + 1 + 1 + 1) 4 (.bool false)
  map : W.ownsMap Try.prog 9 (plainElem Try.prog 3) w.heap.size n (placesOf l)
  bel : Below w.heap.size w W
  marks : Marks w.heap.size W ds
theorem boxed_below2 {W W' : World} {B : Nat} {t : TypeId} {v : Value} (h : Boxed W B t v) (hb : Below W.heap.size W W') : Boxed W' B t v := (hb.block B h.lt).trans h
theorem WI.below {w W W' : World} {B1 n : Nat} {l : List ByteArray} {ds : List Deferred} (h : WI w W B1 n l ds) (hb : Below W.heap.size W W') : WI w W' B1 n l ds :=
  ⟨boxed_below2 h.all hb, boxed_below2 h.r hb, boxed_below2 h.t hb, boxed_below2 h.f hb, h.map.kept (grownBy_below hb) (by simp), below_then h.bel h.bel.size hb, h.marks.below hb⟩
theorem ownFrom_WI {β : Type} {w : World} {B1 n B : Nat} {l : List ByteArray} {ds : List Deferred} (h1 : w.heap.size < B) (hlt : ∀ d' ∈ ds, ∃ q, d' = ({ target := .collected q, args := #[] } : Deferred) ∧ q < B) : OwnFrom B (fun (_ : β) W => WI w W B1 n l ds) :=
  fun s W W' row hs hg hr => by
    have hk : ∀ {b : Nat} {t : TypeId} {v : Value}, Boxed W b t v → Boxed W' b t v := fun hb => (Own.from (boxed_own (β := Unit) _ _ (fun _ => _)) B) () W W' row hb hg hr
    exact ⟨hk hs.all, hk hs.r, hk hs.t, hk hs.f, hs.map.kept hg (fun e => by have := (hr _ e.symm).1; omega), (ownFrom_below (β := Unit) (Nat.le_refl _) (by omega)) () W W' row hs.bel hg hr, (ownFrom_marks (β := Unit) hlt) () W W' row hs.marks hg hr⟩
set_option maxRecDepth 100000 in
set_option maxHeartbeats 4000000 in
theorem lookup_Which.calls (k : Nat) (A0 : Option Addr) (c0 : Nat) (l0 : List ByteArray) (A1 : Option Addr) (c1 : Nat) (l1 : List ByteArray) (r1 : Int) (r2 : Int) (r3 : Bool) (w : World) (hr0 : Kd.C Kd.string w A0 l0.length l0) (hc0 : l0.length ≤ c0) (hr1 : Kd.C Kd.string w A1 l1.length l1) (hc1 : l1.length ≤ c1) (h : lookup_Which.f k l0 l1 = some (r1, r2, r3)) :
    Calls Try.prog 15 #[.slice A0 l0.length c0, .slice A1 l1.length c1] w fun e w' => e = .returned (.tuple #[.int .i64 r1, .int .i64 r2, .bool r3]) ∧ Below w.heap.size w w' := by
  unfold lookup_Which.f at h
  obtain ⟨hs, hl1, hl0⟩ : (∀ t ∈ l1, t.size ≤ 140737488355328) ∧ l1.length ≤ 140737488355328 ∧ l0.length ≤ 140737488355328 := by
    by_cases c : (∀ t ∈ l1, t.size ≤ 140737488355328) ∧ l1.length ≤ 140737488355328 ∧ l0.length ≤ 140737488355328
    · exact c
    · rw [if_neg c] at h; cases h
  rw [if_pos ⟨hs, hl1, hl0⟩] at h
  have H := Lib.hid h
  have CP := Lib.hid (fun W (hb : Below w.heap.size w W) => places_calls A1 c1 l1 W (Kd.C_below hr1 hb) hc1 hs hl1)
  have HR := Lib.hid hr0
  clear h hs hr0 hr1
  refine (callsIn_wide (n := 4)).1 ?_
  refine callsIn_of_wp_marks Try.func15 rfl trivial ?_ rfl
  simp only [Try.ntmps15, List.size_toArray, List.length_cons, List.length_nil, Nat.reduceAdd, Nat.reduceSub, Array.replicate_succ, Array.replicate_zero, List.push_toArray, List.append_toArray, List.nil_append, List.cons_append]
  gi_wp2
  refine wpIn_scope_straight ?_
  gi_wp2_with (refine ⟨trivial, ?_⟩; gi_at_call 26; (refine (callsIn_wide.2 (CP.out _ (Below.refl _ _))).mono ?_; rintro e w1 ⟨rfl, hm, hb⟩; have HM := Lib.hid hm; have HB := Lib.hid hb; clear hm hb))
  refine wpIn_label ?_
  gi_wp2
  have hWI0 : WI w ((((w1.alloc (.cells #[.map (some w.heap.size)] 44)).alloc (.cells #[.int .i64 0] 3)).alloc (.cells #[.int .i64 0] 3)).alloc (.cells #[.bool false] 4)) w1.heap.size l1.length l1 [] := by
    have b0 := Boxed.new w1 44 (.map (some w.heap.size))
    have b1 := Boxed.new (w1.alloc (.cells #[.map (some w.heap.size)] 44)) 3 (.int .i64 0)
    have b2 := Boxed.new ((w1.alloc (.cells #[.map (some w.heap.size)] 44)).alloc (.cells #[.int .i64 0] 3)) 3 (.int .i64 0)
    have b3 := Boxed.new (((w1.alloc (.cells #[.map (some w.heap.size)] 44)).alloc (.cells #[.int .i64 0] 3)).alloc (.cells #[.int .i64 0] 3)) 4 (.bool false)
    simp only [World.size_alloc] at b1 b2 b3
    exact ⟨((b0.alloc _).alloc _).alloc _, (b1.alloc _).alloc _, b2.alloc _, b3, (((HM.out.alloc _).alloc _).alloc _).alloc _, (((HB.out.alloc HB.out.size _).alloc (by simp; have := HB.out.size; omega) _).alloc (by simp; have := HB.out.size; omega) _).alloc (by simp; have := HB.out.size; omega) _, trivial⟩
  have hw1 : w.heap.size < w1.heap.size := HM.out.lt
  clear HM HB CP
  refine wpIn_loop (fun a W => ∃ (i : Nat) (ds : List Deferred) (u11 u12 u21 u22 u23 u24 u25 u26 u27 u28 u29 u30 u31 u32 u33 u45 : Value), i ≤ l0.length ∧ a = { tmps := #[.slice A0 l0.length c0, .slice A1 l1.length c1, undef, undef, .int .i64 0, .int .i64 0, .bool false, .pointer (some ⟨w1.heap.size, 0, none⟩), .pointer (some ⟨w1.heap.size + 1, 0, none⟩), .pointer (some ⟨w1.heap.size + 1 + 1, 0, none⟩), .pointer (some ⟨w1.heap.size + 1 + 1 + 1, 0, none⟩), u11, u12, undef, undef, undef, .slice A1 l1.length c1, .map (some w.heap.size), .slice A0 l0.length c0, .int .i64 (l0.length : Int), .int .i64 (i : Int), u21, u22, u23, u24, u25, u26, u27, u28, u29, u30, u31, u32, u33, undef, undef, undef, undef, undef, undef, undef, undef, undef, undef, undef, u45, undef, undef, undef], defers := ds } ∧ Hid (lookup_Which.go k l1 i (l0.drop i) = some (r1, r2, r3)) ∧ WI w W w1.heap.size l1.length l1 ds) (fun a _ => l0.length - (intOf (a.tmps.getD 20 undef)).toNat) ?_ ?_
  · exact ⟨0, [], undef, undef, undef, undef, undef, undef, undef, undef, undef, undef, undef, undef, undef, undef, undef, undef, by omega, rfl, H, hWI0⟩
  · rintro a W ⟨i, ds, u11, u12, u21, u22, u23, u24, u25, u26, u27, u28, u29, u30, u31, u32, u33, u45, hi, rfl, hH, hI⟩
    have hcr := hI.r.cell
    have hct := hI.t.cell
    have hcf := hI.f.cell
    have hmk := Lib.hid hI.marks
    have hbl := Lib.hid hI.bel
    have hmx : Try.prog.follows .mixedOrders = true := by kernel_rfl
    by_cases hlt : i < l0.length
    · obtain ⟨ad, hA, hx⟩ := Kd.at_string (Kd.C_below HR.out hbl.out) (i : Int) (by omega) (by omega)
      have hrd : rdOf ByteArray.empty l0 (i : Int) = l0[i] := by unfold rdOf; simp [hlt]
      obtain ⟨r, hr⟩ : ∃ r, l0[i] = r := ⟨_, rfl⟩
      rw [hrd, hr, Int.toNat_natCast] at hx
      have hdrop : l0.drop i = r :: l0.drop (i + 1) := by rw [← hr]; exact List.drop_eq_getElem_cons hlt
      have hgo := hH.out
      rw [hdrop] at hgo
      unfold lookup_Which.go at hgo
      have cT : decide ((i : Int) < (l0.length : Int)) = true := decide_eq_true (by omega)
      have hw : wrap64 ((i : Int) + 1) = ((i + 1 : Nat) : Int) := by unfold wrap64; omega
      subst hA
      have hWs := hI.f.lt
      have HWI := Lib.hid hI
      clear hrd hr hdrop hH H hI hWI0
      by_cases hst : r.toList = ([42] : List UInt8)
      · have hstb : (r.toList == ([42] : List UInt8)) = true := beq_iff_eq.2 hst
        rw [if_pos hst] at hgo
        have HG := Lib.hid hgo
        clear hgo hst
        gi_wp2
        refine ⟨trivial, ?_⟩
        gi_wp2
        refine ⟨⟨i + 1, ds, _, _, _, _, _, _, _, _, _, _, _, _, _, _, _, _, by omega, rfl, HG, ?_⟩, ?_⟩
        · exact HWI.out.below ((Below.refl _ W).alloc (Nat.le_refl _) _)
        · simp [intOf]; omega
      · rw [if_neg hst] at hgo
        obtain ⟨b, hb, hgo⟩ := Option.bind_eq_some_iff.1 hgo
        have hstb : (r.toList == ([42] : List UInt8)) = false := beq_eq_false_iff_ne.2 hst
        have CB := Lib.hid (fun W => filter_Basic.calls k r b W hb)
        clear hb hst
        cases b with
        | false =>
          rw [if_neg (by decide)] at hgo
          have HG := Lib.hid hgo
          clear hgo
          gi_wp2_with (refine ⟨trivial, ?_⟩; gi_at_call 27; refine (callsIn_wide.2 (CB.out _)).mono ?_; rintro e w2 ⟨rfl, hb⟩; have HB := Lib.hid hb; clear hb)
          refine ⟨⟨i + 1, ds, _, _, _, _, _, _, _, _, _, _, _, _, _, _, _, _, by omega, rfl, HG, ?_⟩, ?_⟩
          · exact (HWI.out.below ((Below.refl _ W).alloc (Nat.le_refl _) _)).below HB.out
          · simp [intOf]; omega
        | true =>
          rw [if_pos rfl] at hgo
          obtain ⟨L, hL, hgo⟩ := Option.bind_eq_some_iff.1 hgo
          have HL := Lib.hid hL
          have HG := Lib.hid hgo
          clear hgo hL
          gi_wp2_with (first | (refine ⟨trivial, ?_⟩; gi_at_call 27; refine (callsIn_wide.2 (CB.out _)).mono ?_; rintro e w2 ⟨rfl, hb⟩; have HB := Lib.hid hb; clear hb) | (refine ⟨trivial, ?_⟩; gi_at_call 12; refine (sequence_in Fence.wide (4 - 1) trivial rfl _ _).mono ?_; rintro e w' ⟨rfl, rfl⟩))
          have hwi := (Below.refl W.heap.size W).alloc (Nat.le_refl _) (.cells #[.int .i64 (i : Int)] 3)
          have bI : Boxed w2 W.heap.size 3 (.int .i64 (i : Int)) := boxed_below2 (Boxed.new W 3 _) HB.out
          have HW2 : Hid (WI w w2 w1.heap.size l1.length l1 ds) := Lib.hid ((HWI.out.below hwi).below HB.out)
          have HW3 : Hid (WI w (w2.alloc (.cells #[.string r] 9)) w1.heap.size l1.length l1 ds) := Lib.hid (HW2.out.below ((Below.refl _ w2).alloc (Nat.le_refl _) _))
          have bN := Boxed.new w2 9 (.string r)
          have hs2 : w1.heap.size + 1 + 1 + 1 < w2.heap.size := HW2.out.f.lt
          have hsi : W.heap.size < w2.heap.size := bI.lt
          have hml := HW2.out.marks.lt
          have hlt3 : ∀ d' ∈ ds, ∃ q, d' = ({ target := .collected q, args := #[] } : Deferred) ∧ q < (w2.alloc (.cells #[.string r] 9)).heap.size := fun d hd => by
            obtain ⟨q, e, h⟩ := hml d hd
            exact ⟨q, e, by simp; omega⟩
          have bI3 := bI.alloc (.cells #[.string r] 9)
          clear hwi hcr hct hcf hmk hbl hWs HWI HB CB
          refine wpIn_rangeFunc_ownG (F := Fence.wide) rfl (by decide) (gf := 24) (lb := #[.pointer (some ⟨w2.heap.size, 0, none⟩)]) rfl trivial (enters_of Try.func24 (by kernel_rfl) rfl)
            (seq_stops (4 - 1) (by decide) w2.heap.size r k L HL.out _ (by simp) bN.cell) (fun _ _ => trivial) (fun _ _ _ _ _ _ _ _ => trivial) (Below.refl _ _) (fun _ => rfl)
            (fun (pre : List {x // x ∈ L}) V => WI w V w1.heap.size l1.length l1 ds ∧ Boxed V W.heap.size 3 (.int .i64 (i : Int)) ∧ Hid (∀ y ∈ pre, findT l1 y.1 = none))
            (fun c (pre : List {x // x ∈ L}) V => Boxed V (w1.heap.size + 1) 3 (.int .i64 (i : Int)) ∧ Boxed V (w1.heap.size + 1 + 1 + 1) 4 (.bool true) ∧ Below w.heap.size w V ∧ Marks w.heap.size V ds ∧ Boxed V (w1.heap.size + 1 + 1) 3 (.int .i64 (((pre.map (·.1)).findSome? (findT l1)).getD 0 : Nat)) ∧ Hid (c = .exit 0 ∧ ((pre.map (·.1)).findSome? (findT l1)).isSome = true))
            (OwnFrom.and (ownFrom_WI (by simp; omega) hlt3) (OwnFrom.and (Own.from (boxed_own _ _ _) _) (ownFrom_pure _ _)))
            (fun c => OwnFrom.and (Own.from (boxed_own _ _ _) _) (OwnFrom.and (Own.from (boxed_own _ _ _) _) (OwnFrom.and (ownFrom_below (Nat.le_refl _) (by simp; omega)) (OwnFrom.and (ownFrom_marks hlt3) (OwnFrom.and (Own.from (boxed_own _ _ (fun (pre : List {x // x ∈ L}) => Value.int .i64 (((pre.map (·.1)).findSome? (findT l1)).getD 0 : Nat))) _) (ownFrom_pure _ _))))))
            ⟨HW3.out, bI3, fun y hy => (by cases hy)⟩
            (fun (x : {x // x ∈ L}) => { tmps := #[.slice (some ad) l0.length c0, .slice A1 l1.length c1, undef, undef, .int .i64 0, .int .i64 0, .bool false, .pointer (some ⟨w1.heap.size, 0, none⟩), .pointer (some ⟨w1.heap.size + 1, 0, none⟩), .pointer (some ⟨w1.heap.size + 1 + 1, 0, none⟩), .pointer (some ⟨w1.heap.size + 1 + 1 + 1, 0, none⟩), .pointer (some ⟨W.heap.size, 0, none⟩), .string r, .string x.1, undef, undef, .slice A1 l1.length c1, .map (some w.heap.size), .slice (some ad) l0.length c0, .int .i64 (l0.length : Int), .int .i64 (i : Int), .bool true, .int .i64 (i : Int), .pointer (some (ad.add i)), .string r, .string r, .bool false, .bool false, .string r, .bool true, .bool false, .bool false, .string r, .func (.func 24) #[] #[.pointer (some ⟨w2.heap.size, 0, none⟩)], .string x.1, undef, undef, undef, undef, undef, undef, undef, undef, undef, undef, u45, undef, undef, undef], defers := [] }) ?assign ?body ?done ?stop
          case assign =>
            intro l x V K hK
            gi_wp2
            exact hK
          case body =>
            rintro l pre x V ⟨hWI, hBi, hall⟩ hlen
            have hxs := lookup_seq.sizes HL.out x.1 x.2
            have HL1 := Lib.hid (lower_lowL x.1 hxs)
            have hca := hWI.all.cell
            have hcr := hWI.r.cell
            have hct := hWI.t.cell
            have hcf := hWI.f.cell
            have hfr := hWI.r.frozen
            have hft := hWI.t.frozen
            have hff := hWI.f.frozen
            have hci := hBi.cell
            have h1 : 1 ≤ 4 - 1 - 1 := by decide
            have HWV := Lib.hid hWI
            have HBI := Lib.hid hBi
            clear hWI hBi
            cases hf : findT l1 x.1 with
            | none =>
              have HF := Lib.hid hf
              gi_wp2
              gi_region_with_o (refine ⟨trivial, ?_⟩; gi_at_call 28; refine (CallsIn.inRound l (callsIn_wide.2 (ascii_Lower.calls _ _ _ HL1.out))).mono ?_; rintro e V2 ⟨rfl, hb⟩; have HV2 := Lib.hid ((HWV.out.below (below_drew (Below.refl _ V))).below hb); have HBV := Lib.hid ((below_drew (Below.refl V.heap.size V)).trans hb); have hca2 := HV2.out.all.cell; have hcr2 := HV2.out.r.cell; have hct2 := HV2.out.t.cell; have hcf2 := HV2.out.f.cell; have hfr2 := HV2.out.r.frozen; have hft2 := HV2.out.t.frozen; have hff2 := HV2.out.f.frozen; have HBI2 := Lib.hid (boxed_below2 HBI.out HBV.out); have hci2 := HBI2.out.cell; have hlk := look_run V2 w.heap.size l1.length l1 x.1 hxs HV2.out.map; rw [HF.out] at hlk; clear hb)
              all_goals gi_wp2
              all_goals
                refine ⟨(keepsOthers_below HBV.out).from _, trivial, HV2.out, HBI2.out, ?_⟩
                show ∀ y ∈ pre ++ [x], findT l1 y.1 = none
                intro y hy
                rcases List.mem_append.1 hy with hy | hy
                · exact hall.out y hy
                · rw [List.mem_singleton.1 hy]; exact HF.out
            | some j =>
              have HF := Lib.hid hf
              gi_wp2
              gi_region_with_o (refine ⟨trivial, ?_⟩; gi_at_call 28; refine (CallsIn.inRound l (callsIn_wide.2 (ascii_Lower.calls _ _ _ HL1.out))).mono ?_; rintro e V2 ⟨rfl, hb⟩; have HV2 := Lib.hid ((HWV.out.below (below_drew (Below.refl _ V))).below hb); have HBV := Lib.hid ((below_drew (Below.refl V.heap.size V)).trans hb); have hca2 := HV2.out.all.cell; have hcr2 := HV2.out.r.cell; have hct2 := HV2.out.t.cell; have hcf2 := HV2.out.f.cell; have hfr2 := HV2.out.r.frozen; have hft2 := HV2.out.t.frozen; have hff2 := HV2.out.f.frozen; have HBI2 := Lib.hid (boxed_below2 HBI.out HBV.out); have hci2 := HBI2.out.cell; have hlk := look_run V2 w.heap.size l1.length l1 x.1 hxs HV2.out.map; rw [HF.out] at hlk; clear hb)
              all_goals gi_wp2
              all_goals
                have hfs : ((pre ++ [x]).map (·.1)).findSome? (findT l1) = some j := by
                  rw [List.map_append, List.findSome?_append]
                  have : (pre.map (·.1)).findSome? (findT l1) = none := List.findSome?_eq_none_iff.2 fun z hz => by
                    obtain ⟨y, hy, rfl⟩ := List.mem_map.1 hz
                    exact hall.out y hy
                  rw [this, List.map_cons, List.map_nil, List.findSome?_cons, HF.out]; rfl
                have ob1 := HV2.out.r.set (.int .i64 (i : Int))
                have ob2 := (HV2.out.t.other (B' := w1.heap.size + 1) (by omega) (.int .i64 (i : Int))).set (.int .i64 (j : Int))
                have ob3 := ((HV2.out.f.other (B' := w1.heap.size + 1) (by omega) (.int .i64 (i : Int))).other (B' := w1.heap.size + 1 + 1) (by omega) (.int .i64 (j : Int))).set (.bool true)
                have KO : KeepsOthers V2 (((V2.setCell ⟨w1.heap.size + 1, 0, none⟩ (.int .i64 (i : Int))).setCell ⟨w1.heap.size + 1 + 1, 0, none⟩ (.int .i64 (j : Int))).setCell ⟨w1.heap.size + 1 + 1 + 1, 0, none⟩ (.bool true)) := ((KeepsOthers.setCell _ _ _).trans (KeepsOthers.setCell _ _ _)).trans (KeepsOthers.setCell _ _ _)
                refine ⟨((keepsOthers_below HBV.out).trans KO).from _, (ob1.other (by omega) _).other (by omega) _, ob3, ((HV2.out.bel.setCell (p := ⟨w1.heap.size + 1, 0, none⟩) (by simp; omega) _).setCell (p := ⟨w1.heap.size + 1 + 1, 0, none⟩) (by simp; omega) _).setCell (p := ⟨w1.heap.size + 1 + 1 + 1, 0, none⟩) (by simp; omega) _, HV2.out.marks.keeps KO, ?_, ?_⟩
                · rw [hfs]; exact ob2.other (by omega) _
                · exact ⟨rfl, by rw [hfs]; rfl⟩
          case done =>
            rintro D ys V hD hys ⟨hWI, hBi, hall⟩ hK
            have hDs : w2.heap.size < D := by simp at hD; omega
            have hn : L.findSome? (findT l1) = none := by
              rw [← hys]
              refine List.findSome?_eq_none_iff.2 fun z hz => ?_
              obtain ⟨y, hy, rfl⟩ := List.mem_map.1 hz
              exact hall.out y hy
            have hgo := HG.out
            rw [hn] at hgo
            have HG2 := Lib.hid hgo
            have hM := hWI.marks.cons (D := D) (by omega) hK (fun d hd => by
              obtain ⟨q, e, h⟩ := hml d hd
              exact ⟨q, e, by omega⟩)
            have HW5 : Hid (WI w V w1.heap.size l1.length l1 ({ target := .collected D, args := #[] } :: ds)) := Lib.hid ⟨hWI.all, hWI.r, hWI.t, hWI.f, hWI.map, hWI.bel, hM⟩
            clear hn hgo hys hall hWI hBi hM
            gi_wp2
            refine ⟨⟨i + 1, by omega, _, ⟨by simp, rfl⟩, HG2, HW5.out⟩, ?_⟩
            simp [intOf]; omega
          case stop =>
            rintro D c pre V hD hpre ⟨hbr, hbf, hbel, hmk, hbt, hc⟩ hK
            have hDs : w2.heap.size < D := by simp at hD; omega
            obtain ⟨rfl, hsome⟩ := hc.out
            obtain ⟨j, hj⟩ := Option.isSome_iff_exists.1 hsome
            have hLj : L.findSome? (findT l1) = some j := by
              obtain ⟨t, ht⟩ := hpre
              rw [← ht, List.findSome?_append, hj]; rfl
            have hgo := HG.out
            rw [hLj] at hgo
            rw [hj] at hbt
            have hE2 : ((i : Int), (j : Int), true) = (r1, r2, r3) := Option.some.inj hgo
            injection hE2 with e1 e2
            injection e2 with e2 e3
            subst e1 e2 e3
            have hM := hmk.cons (D := D) (by omega) hK (fun d hd => by
              obtain ⟨q, e, h⟩ := hml d hd
              exact ⟨q, e, by omega⟩)
            have HM5 := Lib.hid hM
            have HB5 := Lib.hid hbel
            have hcr := hbr.cell
            have hct : V.cell? ⟨w1.heap.size + 1 + 1, 0, none⟩ = some (.int .i64 (j : Int)) := hbt.cell
            have hcf := hbf.cell
            clear hgo hLj hj hsome hc hpre hM hmk hbel hbr hbt hbf
            gi_wp2
            gi_region
            all_goals gi_wp2
            all_goals
              rw [Exit.noGoto_ret]
              refine leaves_marks (n₀ := w.heap.size) _ V.drew (HM5.out.below (below_drew (Below.refl _ _))) fun W' hb => ⟨.tuple #[.int .i64 (i : Int), .int .i64 (j : Int), .bool true], by simp [results, Try.f15, go_sem], rfl, (HB5.out.drew).trans hb⟩
    · obtain rfl : i = l0.length := by omega
      have cT : decide ((l0.length : Int) < (l0.length : Int)) = false := decide_eq_false (by omega)
      have hE := hH.out
      rw [List.drop_length] at hE
      have hE2 : (0, 0, false) = (r1, r2, r3) := Option.some.inj hE
      injection hE2 with e1 e2
      injection e2 with e2 e3
      subst e1 e2 e3
      clear hE hH H hWI0
      gi_wp2
      gi_region
      all_goals gi_wp2
      rw [Exit.noGoto_ret]
      refine leaves_marks (n₀ := w.heap.size) ds W.drew (hmk.out.below (below_drew (Below.refl _ _))) fun W' hb => ⟨.tuple #[.int .i64 0, .int .i64 0, .bool false], by simp [results, Try.f15, go_sem], rfl, (hbl.out.drew).trans hb⟩
-- needs: 12 26 27
end

end Go.Proofs.Ytoigdaioghmlpaa.P
