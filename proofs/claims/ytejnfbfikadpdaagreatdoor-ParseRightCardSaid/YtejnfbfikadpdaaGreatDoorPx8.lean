-- Written for this claim by the session's own run of the print, functions proved by hand put in.
import Derived.Test.YtejnfbfikadpdaaGreatDoorSq
import Derived.Test.YtejnfbfikadpdaaGreatDoorPx0
namespace Go.Proofs.YtejnfbfikadpdaaGreatDoor.P
open Go.RowKit Go.Proofs.YtejnfbfikadpdaaGreatDoorW.PrintWords Go.Proofs.YtejnfbfikadpdaaGreatDoorW.PrintLast Go.Proofs.YtejnfbfikadpdaaGreatDoorW.PrintMore
open Go.Proofs.YtejnfbfikadpdaaGreatDoorW.PrintWords renaming below_alloc → wA_, pw_below_drewN → wN_, below_drew1 → wD_, below_size → wZ_
open Go.Proofs.YtejnfbfikadpdaaGreatDoorW.PrintWords.Kd renaming R_alloc → rA_, R_drewN → rN_, R_drew → rD_
attribute [local go_sem] max2_int min2_int max_two min_two max_three min_three max_four min_four   -- for this text's walks alone
set_option linter.unusedVariables false
set_option linter.unusedSimpArgs false
def r4_Join.l0 : Nat → List ByteArray → ByteArray → Int → Option (ByteArray)
 | 0, _, _, _ => none
 | k + 1, x0, x3, x4 => if x4 < (x0.length : Int) then (if x4 > 0 then (if x3.size + 1 ≤ 9223372036854775807 then (if 0 ≤ x4 then (if (x3 ++ (⟨#[45]⟩ : ByteArray)).size + (rdOf ByteArray.empty x0 x4).size ≤ 9223372036854775807 then (r4_Join.l0 k x0 ((x3 ++ (⟨#[45]⟩ : ByteArray)) ++ (rdOf ByteArray.empty x0 x4)) (wrap64 (x4 + 1))) else (none)) else (none)) else (none)) else (if 0 ≤ x4 then (if x3.size + (rdOf ByteArray.empty x0 x4).size ≤ 9223372036854775807 then (r4_Join.l0 k x0 (x3 ++ (rdOf ByteArray.empty x0 x4)) (wrap64 (x4 + 1))) else (none)) else (none))) else (some x3)
def r4_Join.f (k : Nat) (l0 : List ByteArray) : Option (ByteArray) := r4_Join.l0 k l0 (⟨#[]⟩ : ByteArray) 0
set_option maxHeartbeats 8000000 in
set_option maxRecDepth 100000 in
theorem r4_Join.calls (k : Nat) (A0 : Option Addr) (c0 : Nat) (l0 : List ByteArray) (r : ByteArray) (w : World) (hr0 : Kd.C Kd.string w A0 l0.length l0) (hc0 : l0.length ≤ c0) (h : r4_Join.f k l0 = some r) :
  Calls Tryz.prog 39 #[.slice A0 l0.length c0] w fun e w' => e = .returned (.string r) ∧ Drawn0 w w' := by
 have aN := Aside0.mk hr0
 have a8 := Aside0.mk hc0
 clear hr0 hc0
 have H : (r4_Join.l0 k l0 (⟨#[]⟩ : ByteArray) 0) = some r := h
 clear h
 have H' := Aside0.mk H
 clear H
 go_enter Tryz.func39, Tryz.ntmps39
 go_wp2
 go_loopg [3, 4] k (fun kq v3 v4 w' => ∃ (ac : ByteArray) (ab : Int), v3 = .string ac ∧ v4 = .int .i64 ab ∧ Aside0 (r4_Join.l0 kq l0 ac ab = some r) ∧ Aside0 (kq ≤ k) ∧ Drawn0 w w')
 case atStart => exact ⟨((⟨#[]⟩ : ByteArray)), (0), Qs, Qs, H', ⟨Nat.le_refl _⟩, Q0⟩
 case round =>
  clear H'
  obtain ⟨ac, ab, rfl, rfl, HA, HK1, ⟨m1, rfl⟩⟩ := hrel
  cases gk with
  | zero => exact absurd HA.out (by simp [r4_Join.l0])
  | succ k1 =>
   have H := HA.out
   clear HA
   simp only [r4_Join.l0] at H
   by_cases c2 : ab < (l0.length : Int)
   ·rw [if_pos c2] at H
    have aj : decide (ab < (l0.length : Int)) = true := decide_eq_true c2
    clear c2
    by_cases c3 : ab > 0
    ·rw [if_pos c3] at H
     have ak : decide (0 < ab) = true := decide_eq_true c3
     clear c3
     by_cases c4 : ac.size + 1 ≤ 9223372036854775807
     ·rw [if_pos c4] at H
      have al := eq_true c4
      have aE : decide (ac.size + 1 ≤ 9223372036854775807) = true := decide_eq_true c4
      try have aZ : (9223372036854775807 < ac.size + 1) = False := eq_false (Nat.not_lt.2 c4)
      by_cases c5 : 0 ≤ ab
      ·rw [if_pos c5] at H
       have am : decide (0 ≤ ab) = true := decide_eq_true c5
       clear c5
       by_cases c6 : (ac ++ (⟨#[45]⟩ : ByteArray)).size + (rdOf ByteArray.empty l0 ab).size ≤ 9223372036854775807
       ·rw [if_pos c6] at H
        have aG := eq_true c6
        have a1 : decide ((ac ++ (⟨#[45]⟩ : ByteArray)).size + (rdOf ByteArray.empty l0 ab).size ≤ 9223372036854775807) = true := decide_eq_true c6
        try have aH : (9223372036854775807 < (ac ++ (⟨#[45]⟩ : ByteArray)).size + (rdOf ByteArray.empty l0 ab).size) = False := eq_false (Nat.not_lt.2 c6)
        (try (have aI := aH; simp only [ByteArray.size_append, show (⟨#[45]⟩ : ByteArray).size = 1 from rfl] at aI))
        have H' := Aside0.mk H
        clear H
        have p277 : 0 ≤ (ab : Int) := of_decide_eq_true Qa
        have q277 : ab < (l0.length : Int) := of_decide_eq_true Qa
        obtain ⟨ad277, e277, hx277_0⟩ := Kd.at_string aN.out ab p277 q277
        cases e277
        replace p277 := eq_true p277
        replace q277 := eq_true q277
        go_wp2
        go_roundg k1
        case measure => have := HK1.out; omega
        case rel => exact ⟨((ac ++ (⟨#[45]⟩ : ByteArray)) ++ (rdOf ByteArray.empty l0 ab)), (wrap64 (ab + 1)), Qs, Qs, H', ⟨by have := HK1.out; omega⟩, Q0⟩
       ·rw [if_neg c6] at H
        exact absurd H (by simp)
      ·rw [if_neg c5] at H
       exact absurd H (by simp)
     ·rw [if_neg c4] at H
      exact absurd H (by simp)
    ·rw [if_neg c3] at H
     have ak : decide (0 < ab) = false := decide_eq_false c3
     clear c3
     by_cases c7 : 0 ≤ ab
     ·rw [if_pos c7] at H
      have a2 : decide (0 ≤ ab) = true := decide_eq_true c7
      clear c7
      by_cases c8 : ac.size + (rdOf ByteArray.empty l0 ab).size ≤ 9223372036854775807
      ·rw [if_pos c8] at H
       have a3 := eq_true c8
       have a4 : decide (ac.size + (rdOf ByteArray.empty l0 ab).size ≤ 9223372036854775807) = true := decide_eq_true c8
       try have a5 : (9223372036854775807 < ac.size + (rdOf ByteArray.empty l0 ab).size) = False := eq_false (Nat.not_lt.2 c8)
       have H' := Aside0.mk H
       clear H
       have p278 : 0 ≤ (ab : Int) := of_decide_eq_true Qa
       have q278 : ab < (l0.length : Int) := of_decide_eq_true Qa
       obtain ⟨ad278, e278, hx278_0⟩ := Kd.at_string aN.out ab p278 q278
       cases e278
       replace p278 := eq_true p278
       replace q278 := eq_true q278
       go_wp2
       go_roundg k1
       case measure => have := HK1.out; omega
       case rel => exact ⟨(ac ++ (rdOf ByteArray.empty l0 ab)), (wrap64 (ab + 1)), Qs, Qs, H', ⟨by have := HK1.out; omega⟩, Q0⟩
      ·rw [if_neg c8] at H
       exact absurd H (by simp)
     ·rw [if_neg c7] at H
      exact absurd H (by simp)
   ·rw [if_neg c2] at H
    have aj : decide (ab < (l0.length : Int)) = false := decide_eq_false c2
    clear c2
    obtain rfl := Option.some.inj H
    go_wp2
    go_ret
    exact ⟨Qs, Q0⟩
def r4_Each.l0 : Nat → ByteArray → List (S87) → Int → Int → Option ((List (S87)))
 | 0, _, _, _, _ => none
 | k + 1, x0, x3, x4, x5 => if x5 ≤ (x0.size : Int) then (if x5 = (x0.size : Int) then (if 0 ≤ x4 then (if x4 ≤ x5 then (if x3.length < 5864062014805 then (r4_Each.l0 k x0 (x3 ++ [(⟨x4, x0.extract (x4 : Int).toNat (x5 : Int).toNat⟩ : S87)]) (wrap64 (x5 + 1)) (wrap64 (x5 + 1))) else (none)) else (none)) else (none)) else (if 0 ≤ x5 then (if x5 < (x0.size : Int) then (if (bt x0 x5) = 45 then (if 0 ≤ x4 then (if x4 ≤ x5 then (if x3.length < 5864062014805 then (r4_Each.l0 k x0 (x3 ++ [(⟨x4, x0.extract (x4 : Int).toNat (x5 : Int).toNat⟩ : S87)]) (wrap64 (x5 + 1)) (wrap64 (x5 + 1))) else (none)) else (none)) else (none)) else (r4_Each.l0 k x0 x3 x4 (wrap64 (x5 + 1)))) else (none)) else (none))) else (some x3)
def r4_Each.f (k : Nat) (a0 : ByteArray) : Option ((List (S87))) := r4_Each.l0 k a0 ([] : List (S87)) 0 0
set_option maxHeartbeats 8000000 in
set_option maxRecDepth 100000 in
theorem r4_Each.calls (k : Nat) (a0 : ByteArray) (r : List (S87)) (w : World) (h : r4_Each.f k a0 = some r) :
  Calls Tryz.prog 55 #[.string a0] w fun e w' => ∃ v0_ : Value, e = .returned (v0_) ∧ Kd.R k87 87 w' w.heap.size (fun _ => True) v0_ r ∧ Below w.heap.size w w' := by
 have hu87 := Tryz.underlying87
 have HB := Aside0.mk (Below.refl w.heap.size w)
 have H : (r4_Each.l0 k a0 ([] : List (S87)) 0 0) = some r := h
 clear h
 have H' := Aside0.mk H
 clear H
 go_enter Tryz.func55, Tryz.ntmps55
 go_wp2
 go_loopg [3, 4, 5] k (fun kq v3 v4 v5 w' => ∃ (ac : List (S87)) (ab : Int) (aa : Int), v4 = .int .i64 ab ∧ v5 = .int .i64 aa ∧ Aside0 (r4_Each.l0 kq a0 ac ab aa = some r) ∧ Aside0 (kq ≤ k) ∧ Aside0 (Kd.R k87 87 w' w.heap.size (fun _ => True) v3 ac) ∧ Aside0 (Below w.heap.size w w'))
 case atStart => exact ⟨(([] : List (S87))), (0), (0), Qs, Qs, H', ⟨Nat.le_refl _⟩, ⟨by first | exact Kd.R_nil _ _ _ _ _ | exact Kd.N_nil _ _ _ _ _ | exact Kd.V_nil _ _ _ _ _ | exact Kd.Q_nil _ _ _ _ _ | exact Kd.S_nil _ _ _ _ _⟩, ⟨Qw HB.out⟩⟩
 case round =>
  clear H'
  obtain ⟨ac, ab, aa, rfl, rfl, HA, HK1, HO_3, HB⟩ := hrel
  cases gk with
  | zero => exact absurd HA.out (by simp [r4_Each.l0])
  | succ k1 =>
   have H := HA.out
   clear HA
   simp only [r4_Each.l0] at H
   by_cases c2 : aa ≤ (a0.size : Int)
   ·rw [if_pos c2] at H
    have aj : decide (aa ≤ (a0.size : Int)) = true := decide_eq_true c2
    clear c2
    by_cases c3 : aa = (a0.size : Int)
    ·rw [if_pos c3] at H
     have ak : (aa == (a0.size : Int)) = true := beq_iff_eq.mpr c3
     have aJ : (aa != (a0.size : Int)) = false := bne_eq_false_iff_eq.mpr c3
     clear c3
     by_cases c4 : 0 ≤ ab
     ·rw [if_pos c4] at H
      have al := eq_true c4
      have aE : decide (0 ≤ ab) = true := decide_eq_true c4
      clear c4
      by_cases c5 : ab ≤ aa
      ·rw [if_pos c5] at H
       have am := eq_true c5
       have a6 : decide (ab ≤ aa) = true := decide_eq_true c5
       clear c5
       have aG := eq_true (of_decide_eq_true Qa : aa ≤ (a0.size : Int))
       by_cases c7 : ac.length < 5864062014805
       ·rw [if_pos c7] at H
        have aK := Aside0.mk c7
        clear c7
        obtain ⟨ao, ae⟩ : ∃ y_ : List (S87), y_ = (ac ++ [(⟨ab, a0.extract (ab : Int).toNat (aa : Int).toNat⟩ : S87)]) := ⟨_, rfl⟩
        replace H : (r4_Each.l0 k1 a0 ao (wrap64 (aa + 1)) (wrap64 (aa + 1))) = some r := by first | (rw [ae]; with_reducible exact H) | (have H2_ := (Option.bind_some _ _).symm.trans H; rw [ae]; with_reducible exact H2_) | (have H2_ := (Option.bind_some _ _).symm.trans H; with_reducible exact H2_) | with_reducible exact H | (rw [ae]; exact H) | exact H
        have ap := Aside0.mk ae
        clear ae
        have H' := Aside0.mk H
        clear H
        go_wp2_with (first | ((with_reducible refine gate_builtin (b := .append) (xs := #[.tmp 22, .tmp 29]) rfl ?_); at_builtin; refine Kd.R_append k87 (w0 := w) w.heap.size rfl (.tmp 22) (.tmp 29) 84 87 (.agg #[(.int .i64 0), (.string ⟨#[]⟩)]) 24 rfl Tryz.underlying84 info87 rfl (by decide) (by omega) u3 ac (⟨ab, a0.extract (ab : Int).toNat (aa : Int).toNat⟩ : S87) [.int .i64 ab, .string (a0.extract (ab : Int).toNat (aa : Int).toNat)] (fun _ => True) (fun _ => False) rfl rfl ?aP (fun _ hk => hk.elim) ?aF ?aO ?aB ?aS ?aL ?_; (case aP => exact k87_mkM _ _ _ (⟨ab, a0.extract (ab : Int).toNat (aa : Int).toNat⟩ : S87)); (case aB => exact (Qw HB.out)); (case aF => exact (fun _ _ => trivial)); (case aO => exact (Qr HO_3.out)); (case aS => exact (wZ_ (Qw HB.out))); (case aL => have := aK.out; omega); intro v280 w8 ho hb hg hat; rw [← ap.out] at ho; have ah := Aside0.mk (hb); have ai := Aside0.mk (ho); clear HB; clear HO_3; have HB := ah; have aq := ai; clear ah ai; clear ho hb hg hat))
        go_roundg k1
        case measure => have := HK1.out; omega
        case rel => exact ⟨(ao), (wrap64 (aa + 1)), (wrap64 (aa + 1)), Qs, Qs, H', ⟨by have := HK1.out; omega⟩, ⟨Qr aq.out⟩, ⟨Qw HB.out⟩⟩
       ·rw [if_neg c7] at H
        exact absurd H (by simp)
      ·rw [if_neg c5] at H
       exact absurd H (by simp)
     ·rw [if_neg c4] at H
      exact absurd H (by simp)
    ·rw [if_neg c3] at H
     have ak : (aa == (a0.size : Int)) = false := beq_eq_false_iff_ne.mpr c3
     have aJ : (aa != (a0.size : Int)) = true := bne_iff_ne.mpr c3
     by_cases c9 : 0 ≤ aa
     ·rw [if_pos c9] at H
      have a7 : decide (0 ≤ aa) = true := decide_eq_true c9
      clear c9
      by_cases c10 : aa < (a0.size : Int)
      ·rw [if_pos c10] at H
       have aQ : decide (aa < (a0.size : Int)) = true := decide_eq_true c10
       clear c10
       by_cases c12 : (bt a0 aa) = 45
       ·rw [if_pos c12] at H
        have ar : ((bt a0 aa) == 45) = true := beq_iff_eq.mpr c12
        have au : ((bt a0 aa) != 45) = false := bne_eq_false_iff_eq.mpr c12
        clear c12
        by_cases c13 : 0 ≤ ab
        ·rw [if_pos c13] at H
         have aR := eq_true c13
         have aT : decide (0 ≤ ab) = true := decide_eq_true c13
         clear c13
         by_cases c14 : ab ≤ aa
         ·rw [if_pos c14] at H
          have aU := eq_true c14
          have aV : decide (ab ≤ aa) = true := decide_eq_true c14
          clear c14
          have aW := eq_true (of_decide_eq_true Qa : aa ≤ (a0.size : Int))
          by_cases c16 : ac.length < 5864062014805
          ·rw [if_pos c16] at H
           have av := Aside0.mk c16
           clear c16
           obtain ⟨aw, af⟩ : ∃ y_ : List (S87), y_ = (ac ++ [(⟨ab, a0.extract (ab : Int).toNat (aa : Int).toNat⟩ : S87)]) := ⟨_, rfl⟩
           replace H : (r4_Each.l0 k1 a0 aw (wrap64 (aa + 1)) (wrap64 (aa + 1))) = some r := by first | (rw [af]; with_reducible exact H) | (have H2_ := (Option.bind_some _ _).symm.trans H; rw [af]; with_reducible exact H2_) | (have H2_ := (Option.bind_some _ _).symm.trans H; with_reducible exact H2_) | with_reducible exact H | (rw [af]; exact H) | exact H
           have ax := Aside0.mk af
           clear af
           have H' := Aside0.mk H
           clear H
           have p11 : 0 ≤ (aa : Int) := of_decide_eq_true Qa
           have q11 : aa < (a0.size : Int) := of_decide_eq_true Qa
           have hx11 := bt_at a0 aa
           replace p11 := eq_true p11
           replace q11 := eq_true q11
           go_wp2_with (first | ((with_reducible refine gate_builtin (b := .append) (xs := #[.tmp 22, .tmp 29]) rfl ?_); at_builtin; refine Kd.R_append k87 (w0 := w) w.heap.size rfl (.tmp 22) (.tmp 29) 84 87 (.agg #[(.int .i64 0), (.string ⟨#[]⟩)]) 24 rfl Tryz.underlying84 info87 rfl (by decide) (by omega) u3 ac (⟨ab, a0.extract (ab : Int).toNat (aa : Int).toNat⟩ : S87) [.int .i64 ab, .string (a0.extract (ab : Int).toNat (aa : Int).toNat)] (fun _ => True) (fun _ => False) rfl rfl ?aP (fun _ hk => hk.elim) ?aF ?aO ?aB ?aS ?aL ?_; (case aP => exact k87_mkM _ _ _ (⟨ab, a0.extract (ab : Int).toNat (aa : Int).toNat⟩ : S87)); (case aB => exact (Qw HB.out)); (case aF => exact (fun _ _ => trivial)); (case aO => exact (Qr HO_3.out)); (case aS => exact (wZ_ (Qw HB.out))); (case aL => have := av.out; omega); intro v283 w17 ho hb hg hat; rw [← ax.out] at ho; have ah := Aside0.mk (hb); have ai := Aside0.mk (ho); clear HB; clear HO_3; have HB := ah; have ay := ai; clear ah ai; clear ho hb hg hat))
           go_roundg k1
           case measure => have := HK1.out; omega
           case rel => exact ⟨(aw), (wrap64 (aa + 1)), (wrap64 (aa + 1)), Qs, Qs, H', ⟨by have := HK1.out; omega⟩, ⟨Qr ay.out⟩, ⟨Qw HB.out⟩⟩
          ·rw [if_neg c16] at H
           exact absurd H (by simp)
         ·rw [if_neg c14] at H
          exact absurd H (by simp)
        ·rw [if_neg c13] at H
         exact absurd H (by simp)
       ·rw [if_neg c12] at H
        have ar : ((bt a0 aa) == 45) = false := beq_eq_false_iff_ne.mpr c12
        have au : ((bt a0 aa) != 45) = true := bne_iff_ne.mpr c12
        have H' := Aside0.mk H
        clear H
        have p11 : 0 ≤ (aa : Int) := of_decide_eq_true Qa
        have q11 : aa < (a0.size : Int) := of_decide_eq_true Qa
        have hx11 := bt_at a0 aa
        replace p11 := eq_true p11
        replace q11 := eq_true q11
        go_wp2
        go_roundg k1
        case measure => have := HK1.out; omega
        case rel => exact ⟨(ac), (ab), (wrap64 (aa + 1)), Qs, Qs, H', ⟨by have := HK1.out; omega⟩, ⟨Qr HO_3.out⟩, ⟨Qw HB.out⟩⟩
      ·rw [if_neg c10] at H
       exact absurd H (by simp)
     ·rw [if_neg c9] at H
      exact absurd H (by simp)
   ·rw [if_neg c2] at H
    have aj : decide (aa ≤ (a0.size : Int)) = false := decide_eq_false c2
    clear c2
    obtain rfl := Option.some.inj H
    go_wp2
    go_ret
    exact ⟨_, Qe, Qr HO_3.out, Qw HB.out⟩
def r4_Split.l0 : Nat → List ByteArray → List (S87) → Int → Option (List ByteArray)
 | 0, _, _, _ => none
 | k + 1, x3, x4, x5 => if x5 < (x4.length : Int) then (if 0 ≤ x5 then (if x3.length < 8796093022208 then (r4_Split.l0 k (x3 ++ [(rd_T87 x4 x5).f1]) x4 (wrap64 (x5 + 1))) else (none)) else (none)) else (some x3)
def r4_Split.f (k : Nat) (a0 : ByteArray) : Option (List ByteArray) := (r4_Each.f k a0).bind fun ad => (r4_Split.l0 k ([] : List ByteArray) ad 0)
set_option maxHeartbeats 8000000 in
set_option maxRecDepth 100000 in
theorem r4_Split.calls (k : Nat) (a0 : ByteArray) (r : List ByteArray) (w : World) (h : r4_Split.f k a0 = some r) :
  Calls Tryz.prog 23 #[.string a0] w fun e w' => ∃ v0_ : Value, e = .returned (v0_) ∧ Kd.R Kd.string 9 w' w.heap.size (fun _ => True) v0_ r ∧ Below w.heap.size w w' := by
 have HB := Aside0.mk (Below.refl w.heap.size w)
 have H := h; unfold r4_Split.f at H
 clear h
 replace H := Option.bind_eq_some_iff.mp H
 obtain ⟨ad, aX, H⟩ := H
 try dsimp only at H
 have A2 := Aside0.mk aX
 clear aX
 have H' := Aside0.mk H
 clear H
 go_enter Tryz.func23, Tryz.ntmps23
 go_wp2_with (first | ((with_reducible refine gate_callee (f := 55) rfl ?_); refine goesL_ (some 7) rfl rfl Tryz.func55 (by kernel_rfl) rfl #[.string a0] rfl Qm ?_; (with_reducible refine (r4_Each.calls k a0 ad _ A2.out).mono ?_); rintro e w3 ⟨v286, rfl, ho0, hb⟩; refine ⟨_, rfl, ?_⟩; have ah := Aside0.mk (Kd.R_lower ho0 (wZ_ (Qw HB.out))); have ai := Aside0.mk (below_step (Qw HB.out) hb); clear HB; have az := ah; have HB := ai; clear ah ai; (try clear hb); (try clear ho0)))
 go_loopg [3, 5] k (fun kq v3 v5 w' => ∃ (ac : List ByteArray) (aa : Int), v5 = .int .i64 aa ∧ Aside0 (r4_Split.l0 kq ac ad aa = some r) ∧ Aside0 (kq ≤ k) ∧ Aside0 (Kd.R Kd.string 9 w' w.heap.size (fun _ => True) v3 ac) ∧ Aside0 (Kd.R k87 87 w' w.heap.size (fun _ => True) v286 ad) ∧ Aside0 (Below w.heap.size w w'))
 case atStart => exact ⟨(([] : List ByteArray)), (0), Qs, H', ⟨Nat.le_refl _⟩, ⟨by first | exact Kd.R_nil _ _ _ _ _ | exact Kd.N_nil _ _ _ _ _ | exact Kd.V_nil _ _ _ _ _ | exact Kd.Q_nil _ _ _ _ _ | exact Kd.S_nil _ _ _ _ _⟩, ⟨Qr az.out⟩, ⟨Qw HB.out⟩⟩
 case round =>
  clear H'
  obtain ⟨ac, aa, rfl, HA, HK1, HO_3, HO_4, HB⟩ := hrel
  cases gk with
  | zero => exact absurd HA.out (by simp [r4_Split.l0])
  | succ k1 =>
   have H := HA.out
   clear HA
   simp only [r4_Split.l0] at H
   by_cases c4 : aa < (ad.length : Int)
   ·rw [if_pos c4] at H
    have al : decide (aa < (ad.length : Int)) = true := decide_eq_true c4
    clear c4
    by_cases c5 : 0 ≤ aa
    ·rw [if_pos c5] at H
     have am : decide (0 ≤ aa) = true := decide_eq_true c5
     clear c5
     by_cases c6 : ac.length < 8796093022208
     ·rw [if_pos c6] at H
      have aM := Aside0.mk c6
      clear c6
      obtain ⟨aA, ag⟩ : ∃ y_ : List ByteArray, y_ = (ac ++ [(rd_T87 ad aa).f1]) := ⟨_, rfl⟩
      replace H : (r4_Split.l0 k1 aA ad (wrap64 (aa + 1))) = some r := by first | (rw [ag]; with_reducible exact H) | (have H2_ := (Option.bind_some _ _).symm.trans H; rw [ag]; with_reducible exact H2_) | (have H2_ := (Option.bind_some _ _).symm.trans H; with_reducible exact H2_) | with_reducible exact H | (rw [ag]; exact H) | exact H
      have aC := Aside0.mk ag
      clear ag
      have H' := Aside0.mk H
      clear H
      obtain ⟨Ao7, co7, eo7⟩ := Kd.R_slice HO_4.out
      subst eo7
      have p288 : 0 ≤ (aa : Int) := of_decide_eq_true Qa
      have q288 : aa < (ad.length : Int) := of_decide_eq_true Qa
      obtain ⟨ad288, e288, hx288_0, hx288_1⟩ := at_T87 (Kd.R_reads' HO_4.out).2.2 aa p288 q288
      cases e288
      replace p288 := eq_true p288
      replace q288 := eq_true q288
      go_wp2_with (first | ((with_reducible refine gate_builtin (b := .append) (xs := #[.tmp 14, .tmp 20]) rfl ?_); at_builtin; refine Kd.R_append Kd.string (w0 := w) w.heap.size rfl (.tmp 14) (.tmp 20) 26 9 (.string ⟨#[]⟩) 16 rfl Tryz.underlying26 info9 rfl (by decide) (by omega) u3 ac ((rd_T87 ad aa).f1) [.string ((rd_T87 ad aa).f1)] (fun _ => True) (fun _ => False) rfl rfl ?aP (fun _ hk => hk.elim) ?aF ?aO ?aB ?aS ?aL ?_; (case aP => exact rfl); (case aB => exact (Qw HB.out)); (case aF => exact (fun _ _ => trivial)); (case aO => exact (Qr HO_3.out)); (case aS => exact (wZ_ (Qw HB.out))); (case aL => have := aM.out; omega); intro v290 w8 ho hb hg hat; rw [← aC.out] at ho; have ah := Aside0.mk (Kd.R_over' (Qr HO_4.out) (Kd.R_typed (Qr HO_3.out)) (by decide) hg); have ai := Aside0.mk (hb); have aY := Aside0.mk (ho); clear HO_4; clear HB; clear HO_3; have HO_4 := ah; have HB := ai; have aD := aY; clear ah ai aY; clear ho hb hg hat))
      go_roundg k1
      case measure => have := HK1.out; omega
      case rel => exact ⟨(aA), (wrap64 (aa + 1)), Qs, H', ⟨by have := HK1.out; omega⟩, ⟨Qr aD.out⟩, ⟨Qr HO_4.out⟩, ⟨Qw HB.out⟩⟩
     ·rw [if_neg c6] at H
      exact absurd H (by simp)
    ·rw [if_neg c5] at H
     exact absurd H (by simp)
   ·rw [if_neg c4] at H
    have al : decide (aa < (ad.length : Int)) = false := decide_eq_false c4
    clear c4
    obtain rfl := Option.some.inj H
    obtain ⟨Ao9, co9, eo9⟩ := Kd.R_slice HO_4.out
    subst eo9
    go_wp2
    go_ret
    exact ⟨_, Qe, Qr HO_3.out, Qw HB.out⟩
end Go.Proofs.YtejnfbfikadpdaaGreatDoor.P
