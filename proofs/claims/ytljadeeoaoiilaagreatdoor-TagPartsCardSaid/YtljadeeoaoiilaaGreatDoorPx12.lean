-- Written for this claim by the session's own run of the print, functions proved by hand put in.
import Derived.Test.YtljadeeoaoiilaaGreatDoorSq
import Derived.Test.YtljadeeoaoiilaaGreatDoorPx0
namespace Go.Proofs.YtljadeeoaoiilaaGreatDoor.P
open Go.RowKit Go.Proofs.YtljadeeoaoiilaaGreatDoorW.PrintWords Go.Proofs.YtljadeeoaoiilaaGreatDoorW.PrintLast Go.Proofs.YtljadeeoaoiilaaGreatDoorW.PrintMore
attribute [local go_sem] max2_int min2_int max_two min_two max_three min_three max_four min_four   -- for this text's walks alone
set_option linter.unusedVariables false
set_option linter.unusedSimpArgs false
def r4_Each.l0 : Nat → ByteArray → List (S88) → Int → Int → Option ((List (S88)))
 | 0, _, _, _, _ => none
 | k + 1, x0, x3, x4, x5 => if x5 ≤ (x0.size : Int) then (if x5 = (x0.size : Int) then (if 0 ≤ x4 then (if x4 ≤ x5 then (if x3.length < 5864062014805 then (r4_Each.l0 k x0 (x3 ++ [(⟨x4, x0.extract (x4 : Int).toNat (x5 : Int).toNat⟩ : S88)]) (wrap64 (x5 + 1)) (wrap64 (x5 + 1))) else (none)) else (none)) else (none)) else (if 0 ≤ x5 then (if x5 < (x0.size : Int) then (if (bt x0 x5) = 45 then (if 0 ≤ x4 then (if x4 ≤ x5 then (if x3.length < 5864062014805 then (r4_Each.l0 k x0 (x3 ++ [(⟨x4, x0.extract (x4 : Int).toNat (x5 : Int).toNat⟩ : S88)]) (wrap64 (x5 + 1)) (wrap64 (x5 + 1))) else (none)) else (none)) else (none)) else (r4_Each.l0 k x0 x3 x4 (wrap64 (x5 + 1)))) else (none)) else (none))) else (some x3)
def r4_Each.f (k : Nat) (a0 : ByteArray) : Option ((List (S88))) := r4_Each.l0 k a0 ([] : List (S88)) 0 0
set_option maxHeartbeats 8000000 in
set_option maxRecDepth 100000 in
theorem r4_Each.calls (k : Nat) (a0 : ByteArray) (r : List (S88)) (w : World) (h : r4_Each.f k a0 = some r) :
  Calls Tryz.prog 98 #[.string a0] w fun e w' => ∃ v0_ : Value, e = .returned (v0_) ∧ Kd.R k88 88 w' w.heap.size (fun _ => True) v0_ r ∧ Below w.heap.size w w' := by
 have hu88 := Tryz.underlying88
 have HB := Aside0.mk (Below.refl w.heap.size w)
 have H : (r4_Each.l0 k a0 ([] : List (S88)) 0 0) = some r := h
 clear h
 have H' := Aside0.mk H
 clear H
 go_enter Tryz.func98, Tryz.ntmps98
 go_wp2
 go_loopg [3, 4, 5] k (fun kq v3 v4 v5 w' => ∃ (ac : List (S88)) (ab : Int) (aa : Int), v4 = .int .i64 ab ∧ v5 = .int .i64 aa ∧ Aside0 (r4_Each.l0 kq a0 ac ab aa = some r) ∧ Aside0 (kq ≤ k) ∧ Aside0 (Kd.R k88 88 w' w.heap.size (fun _ => True) v3 ac) ∧ Aside0 (Below w.heap.size w w'))
 case atStart => exact ⟨(([] : List (S88))), (0), (0), Qs, Qs, H', ⟨Nat.le_refl _⟩, ⟨by first | exact Kd.R_nil _ _ _ _ _ | exact Kd.N_nil _ _ _ _ _ | exact Kd.V_nil _ _ _ _ _ | exact Kd.Q_nil _ _ _ _ _ | exact Kd.S_nil _ _ _ _ _⟩, ⟨Qw HB.out⟩⟩
 case round =>
  clear H'
  obtain ⟨ac, ab, aa, rfl, rfl, HA, HK1, HO_3, HB⟩ := hrel
  cases gk with
  | zero => exact absurd HA.out (by simp [r4_Each.l0])
  | succ k1 =>
   have H := HA.out
   clear HA
   simp only [r4_Each.l0] at H
   by_cases c2 : aa ≤ (a0.size : Int)
   ·rw [if_pos c2] at H
    have aA : decide (aa ≤ (a0.size : Int)) = true := decide_eq_true c2
    clear c2
    by_cases c3 : aa = (a0.size : Int)
    ·rw [if_pos c3] at H
     have aC : (aa == (a0.size : Int)) = true := beq_iff_eq.mpr c3
     have aD : (aa != (a0.size : Int)) = false := bne_eq_false_iff_eq.mpr c3
     clear c3
     by_cases c4 : 0 ≤ ab
     ·rw [if_pos c4] at H
      have aj := eq_true c4
      have aU : decide (0 ≤ ab) = true := decide_eq_true c4
      clear c4
      by_cases c5 : ab ≤ aa
      ·rw [if_pos c5] at H
       have aE := eq_true c5
       have aV : decide (ab ≤ aa) = true := decide_eq_true c5
       clear c5
       have aW := eq_true (of_decide_eq_true Qa : aa ≤ (a0.size : Int))
       by_cases c7 : ac.length < 5864062014805
       ·rw [if_pos c7] at H
        have aG := Aside0.mk c7
        clear c7
        obtain ⟨ak, ae⟩ : ∃ y_ : List (S88), y_ = (ac ++ [(⟨ab, a0.extract (ab : Int).toNat (aa : Int).toNat⟩ : S88)]) := ⟨_, rfl⟩
        replace H : (r4_Each.l0 k1 a0 ak (wrap64 (aa + 1)) (wrap64 (aa + 1))) = some r := by first | (rw [ae]; with_reducible exact H) | (have H2_ := (Option.bind_some _ _).symm.trans H; rw [ae]; with_reducible exact H2_) | (have H2_ := (Option.bind_some _ _).symm.trans H; with_reducible exact H2_) | with_reducible exact H | (rw [ae]; exact H) | exact H
        have al := Aside0.mk ae
        clear ae
        have H' := Aside0.mk H
        clear H
        go_wp2_with (first | ((with_reducible refine gate_builtin (b := .append) (xs := #[.tmp 22, .tmp 29]) rfl ?_); at_builtin; refine Kd.R_append k88 (w0 := w) w.heap.size rfl (.tmp 22) (.tmp 29) 85 88 (.agg #[(.int .i64 0), (.string ⟨#[]⟩)]) 24 rfl Tryz.underlying85 info88 rfl (by decide) (by omega) u3 ac (⟨ab, a0.extract (ab : Int).toNat (aa : Int).toNat⟩ : S88) [.int .i64 ab, .string (a0.extract (ab : Int).toNat (aa : Int).toNat)] (fun _ => True) (fun _ => False) rfl rfl ?aP (fun _ hk => hk.elim) ?aF ?aO ?aB ?aS ?aL ?_; (case aP => exact k88_mkM _ _ _ (⟨ab, a0.extract (ab : Int).toNat (aa : Int).toNat⟩ : S88)); (case aB => exact (Qw HB.out)); (case aF => exact (fun _ _ => trivial)); (case aO => exact (Qr HO_3.out)); (case aS => exact (below_size (Qw HB.out))); (case aL => have := aG.out; omega); intro v273 w8 ho hb hg hat; rw [← al.out] at ho; have ah := Aside0.mk (hb); have ai := Aside0.mk (ho); clear HB; clear HO_3; have HB := ah; have am := ai; clear ah ai; clear ho hb hg hat))
        go_roundg k1
        case measure => have := HK1.out; omega
        case rel => exact ⟨(ak), (wrap64 (aa + 1)), (wrap64 (aa + 1)), Qs, Qs, H', ⟨by have := HK1.out; omega⟩, ⟨Qr am.out⟩, ⟨Qw HB.out⟩⟩
       ·rw [if_neg c7] at H
        exact absurd H (by simp)
      ·rw [if_neg c5] at H
       exact absurd H (by simp)
     ·rw [if_neg c4] at H
      exact absurd H (by simp)
    ·rw [if_neg c3] at H
     have aC : (aa == (a0.size : Int)) = false := beq_eq_false_iff_ne.mpr c3
     have aD : (aa != (a0.size : Int)) = true := bne_iff_ne.mpr c3
     by_cases c9 : 0 ≤ aa
     ·rw [if_pos c9] at H
      have aX : decide (0 ≤ aa) = true := decide_eq_true c9
      clear c9
      by_cases c10 : aa < (a0.size : Int)
      ·rw [if_pos c10] at H
       have aI : decide (aa < (a0.size : Int)) = true := decide_eq_true c10
       clear c10
       by_cases c12 : (bt a0 aa) = 45
       ·rw [if_pos c12] at H
        have ao : ((bt a0 aa) == 45) = true := beq_iff_eq.mpr c12
        have ap : ((bt a0 aa) != 45) = false := bne_eq_false_iff_eq.mpr c12
        clear c12
        by_cases c13 : 0 ≤ ab
        ·rw [if_pos c13] at H
         have aJ := eq_true c13
         have aK : decide (0 ≤ ab) = true := decide_eq_true c13
         clear c13
         by_cases c14 : ab ≤ aa
         ·rw [if_pos c14] at H
          have aM := eq_true c14
          have aN : decide (ab ≤ aa) = true := decide_eq_true c14
          clear c14
          have aQ := eq_true (of_decide_eq_true Qa : aa ≤ (a0.size : Int))
          by_cases c16 : ac.length < 5864062014805
          ·rw [if_pos c16] at H
           have aq := Aside0.mk c16
           clear c16
           obtain ⟨ar, af⟩ : ∃ y_ : List (S88), y_ = (ac ++ [(⟨ab, a0.extract (ab : Int).toNat (aa : Int).toNat⟩ : S88)]) := ⟨_, rfl⟩
           replace H : (r4_Each.l0 k1 a0 ar (wrap64 (aa + 1)) (wrap64 (aa + 1))) = some r := by first | (rw [af]; with_reducible exact H) | (have H2_ := (Option.bind_some _ _).symm.trans H; rw [af]; with_reducible exact H2_) | (have H2_ := (Option.bind_some _ _).symm.trans H; with_reducible exact H2_) | with_reducible exact H | (rw [af]; exact H) | exact H
           have au := Aside0.mk af
           clear af
           have H' := Aside0.mk H
           clear H
           have p11 : 0 ≤ (aa : Int) := of_decide_eq_true Qa
           have q11 : aa < (a0.size : Int) := of_decide_eq_true Qa
           have hx11 := bt_at a0 aa
           replace p11 := eq_true p11
           replace q11 := eq_true q11
           go_wp2_with (first | ((with_reducible refine gate_builtin (b := .append) (xs := #[.tmp 22, .tmp 29]) rfl ?_); at_builtin; refine Kd.R_append k88 (w0 := w) w.heap.size rfl (.tmp 22) (.tmp 29) 85 88 (.agg #[(.int .i64 0), (.string ⟨#[]⟩)]) 24 rfl Tryz.underlying85 info88 rfl (by decide) (by omega) u3 ac (⟨ab, a0.extract (ab : Int).toNat (aa : Int).toNat⟩ : S88) [.int .i64 ab, .string (a0.extract (ab : Int).toNat (aa : Int).toNat)] (fun _ => True) (fun _ => False) rfl rfl ?aP (fun _ hk => hk.elim) ?aF ?aO ?aB ?aS ?aL ?_; (case aP => exact k88_mkM _ _ _ (⟨ab, a0.extract (ab : Int).toNat (aa : Int).toNat⟩ : S88)); (case aB => exact (Qw HB.out)); (case aF => exact (fun _ _ => trivial)); (case aO => exact (Qr HO_3.out)); (case aS => exact (below_size (Qw HB.out))); (case aL => have := aq.out; omega); intro v276 w17 ho hb hg hat; rw [← au.out] at ho; have ah := Aside0.mk (hb); have ai := Aside0.mk (ho); clear HB; clear HO_3; have HB := ah; have av := ai; clear ah ai; clear ho hb hg hat))
           go_roundg k1
           case measure => have := HK1.out; omega
           case rel => exact ⟨(ar), (wrap64 (aa + 1)), (wrap64 (aa + 1)), Qs, Qs, H', ⟨by have := HK1.out; omega⟩, ⟨Qr av.out⟩, ⟨Qw HB.out⟩⟩
          ·rw [if_neg c16] at H
           exact absurd H (by simp)
         ·rw [if_neg c14] at H
          exact absurd H (by simp)
        ·rw [if_neg c13] at H
         exact absurd H (by simp)
       ·rw [if_neg c12] at H
        have ao : ((bt a0 aa) == 45) = false := beq_eq_false_iff_ne.mpr c12
        have ap : ((bt a0 aa) != 45) = true := bne_iff_ne.mpr c12
        have H' := Aside0.mk H
        clear H
        have p11 : 0 ≤ (aa : Int) := of_decide_eq_true Qa
        have q11 : aa < (a0.size : Int) := of_decide_eq_true Qa
        have hx11 := bt_at a0 aa
        replace p11 := eq_true p11
        replace q11 := eq_true q11
        go_wp2
        go_roundg k1
        case measure => have := HK1.out; omega
        case rel => exact ⟨(ac), (ab), (wrap64 (aa + 1)), Qs, Qs, H', ⟨by have := HK1.out; omega⟩, ⟨Qr HO_3.out⟩, ⟨Qw HB.out⟩⟩
      ·rw [if_neg c10] at H
       exact absurd H (by simp)
     ·rw [if_neg c9] at H
      exact absurd H (by simp)
   ·rw [if_neg c2] at H
    have aA : decide (aa ≤ (a0.size : Int)) = false := decide_eq_false c2
    clear c2
    obtain rfl := Option.some.inj H
    go_wp2
    go_ret
    exact ⟨_, Qe, Qr HO_3.out, Qw HB.out⟩
def r4_Split.l0 : Nat → List ByteArray → List (S88) → Int → Option (List ByteArray)
 | 0, _, _, _ => none
 | k + 1, x3, x4, x5 => if x5 < (x4.length : Int) then (if 0 ≤ x5 then (if x3.length < 8796093022208 then (r4_Split.l0 k (x3 ++ [(rd_T88 x4 x5).f1]) x4 (wrap64 (x5 + 1))) else (none)) else (none)) else (some x3)
def r4_Split.f (k : Nat) (a0 : ByteArray) : Option (List ByteArray) := (r4_Each.f k a0).bind fun ad => (r4_Split.l0 k ([] : List ByteArray) ad 0)
set_option maxHeartbeats 8000000 in
set_option maxRecDepth 100000 in
theorem r4_Split.calls (k : Nat) (a0 : ByteArray) (r : List ByteArray) (w : World) (h : r4_Split.f k a0 = some r) :
  Calls Tryz.prog 80 #[.string a0] w fun e w' => ∃ v0_ : Value, e = .returned (v0_) ∧ Kd.R Kd.string 9 w' w.heap.size (fun _ => True) v0_ r ∧ Below w.heap.size w w' := by
 have HB := Aside0.mk (Below.refl w.heap.size w)
 have H := h; unfold r4_Split.f at H
 clear h
 replace H := Option.bind_eq_some_iff.mp H
 obtain ⟨ad, aR, H⟩ := H
 try dsimp only at H
 have A2 := Aside0.mk aR
 clear aR
 have H' := Aside0.mk H
 clear H
 go_enter Tryz.func80, Tryz.ntmps80
 go_wp2_with (first | ((with_reducible refine gate_callee (f := 98) rfl ?_); refine goesL_ (some 7) rfl rfl Tryz.func98 (by kernel_rfl) rfl #[.string a0] rfl Qm ?_; (with_reducible refine (r4_Each.calls k a0 ad _ A2.out).mono ?_); rintro e w3 ⟨v279, rfl, ho0, hb⟩; refine ⟨_, rfl, ?_⟩; have ah := Aside0.mk (Kd.R_lower ho0 (below_size (Qw HB.out))); have ai := Aside0.mk (below_step (Qw HB.out) hb); clear HB; have aw := ah; have HB := ai; clear ah ai; (try clear hb); (try clear ho0)))
 go_loopg [3, 5] k (fun kq v3 v5 w' => ∃ (ac : List ByteArray) (aa : Int), v5 = .int .i64 aa ∧ Aside0 (r4_Split.l0 kq ac ad aa = some r) ∧ Aside0 (kq ≤ k) ∧ Aside0 (Kd.R Kd.string 9 w' w.heap.size (fun _ => True) v3 ac) ∧ Aside0 (Kd.R k88 88 w' w.heap.size (fun _ => True) v279 ad) ∧ Aside0 (Below w.heap.size w w'))
 case atStart => exact ⟨(([] : List ByteArray)), (0), Qs, H', ⟨Nat.le_refl _⟩, ⟨by first | exact Kd.R_nil _ _ _ _ _ | exact Kd.N_nil _ _ _ _ _ | exact Kd.V_nil _ _ _ _ _ | exact Kd.Q_nil _ _ _ _ _ | exact Kd.S_nil _ _ _ _ _⟩, ⟨Qr aw.out⟩, ⟨Qw HB.out⟩⟩
 case round =>
  clear H'
  obtain ⟨ac, aa, rfl, HA, HK1, HO_3, HO_4, HB⟩ := hrel
  cases gk with
  | zero => exact absurd HA.out (by simp [r4_Split.l0])
  | succ k1 =>
   have H := HA.out
   clear HA
   simp only [r4_Split.l0] at H
   by_cases c4 : aa < (ad.length : Int)
   ·rw [if_pos c4] at H
    have aj : decide (aa < (ad.length : Int)) = true := decide_eq_true c4
    clear c4
    by_cases c5 : 0 ≤ aa
    ·rw [if_pos c5] at H
     have aE : decide (0 ≤ aa) = true := decide_eq_true c5
     clear c5
     by_cases c6 : ac.length < 8796093022208
     ·rw [if_pos c6] at H
      have aH := Aside0.mk c6
      clear c6
      obtain ⟨ax, ag⟩ : ∃ y_ : List ByteArray, y_ = (ac ++ [(rd_T88 ad aa).f1]) := ⟨_, rfl⟩
      replace H : (r4_Split.l0 k1 ax ad (wrap64 (aa + 1))) = some r := by first | (rw [ag]; with_reducible exact H) | (have H2_ := (Option.bind_some _ _).symm.trans H; rw [ag]; with_reducible exact H2_) | (have H2_ := (Option.bind_some _ _).symm.trans H; with_reducible exact H2_) | with_reducible exact H | (rw [ag]; exact H) | exact H
      have ay := Aside0.mk ag
      clear ag
      have H' := Aside0.mk H
      clear H
      obtain ⟨Ao7, co7, eo7⟩ := Kd.R_slice HO_4.out
      subst eo7
      have p281 : 0 ≤ (aa : Int) := of_decide_eq_true Qa
      have q281 : aa < (ad.length : Int) := of_decide_eq_true Qa
      obtain ⟨ad281, e281, hx281_0, hx281_1⟩ := at_T88 (Kd.R_reads' HO_4.out).2.2 aa p281 q281
      cases e281
      replace p281 := eq_true p281
      replace q281 := eq_true q281
      go_wp2_with (first | ((with_reducible refine gate_builtin (b := .append) (xs := #[.tmp 14, .tmp 20]) rfl ?_); at_builtin; refine Kd.R_append Kd.string (w0 := w) w.heap.size rfl (.tmp 14) (.tmp 20) 22 9 (.string ⟨#[]⟩) 16 rfl Tryz.underlying22 info9 rfl (by decide) (by omega) u3 ac ((rd_T88 ad aa).f1) [.string ((rd_T88 ad aa).f1)] (fun _ => True) (fun _ => False) rfl rfl ?aP (fun _ hk => hk.elim) ?aF ?aO ?aB ?aS ?aL ?_; (case aP => exact rfl); (case aB => exact (Qw HB.out)); (case aF => exact (fun _ _ => trivial)); (case aO => exact (Qr HO_3.out)); (case aS => exact (below_size (Qw HB.out))); (case aL => have := aH.out; omega); intro v283 w8 ho hb hg hat; rw [← ay.out] at ho; have ah := Aside0.mk (Kd.R_over' (Qr HO_4.out) (Kd.R_typed (Qr HO_3.out)) (by decide) hg); have ai := Aside0.mk (hb); have aT := Aside0.mk (ho); clear HO_4; clear HB; clear HO_3; have HO_4 := ah; have HB := ai; have az := aT; clear ah ai aT; clear ho hb hg hat))
      go_roundg k1
      case measure => have := HK1.out; omega
      case rel => exact ⟨(ax), (wrap64 (aa + 1)), Qs, H', ⟨by have := HK1.out; omega⟩, ⟨Qr az.out⟩, ⟨Qr HO_4.out⟩, ⟨Qw HB.out⟩⟩
     ·rw [if_neg c6] at H
      exact absurd H (by simp)
    ·rw [if_neg c5] at H
     exact absurd H (by simp)
   ·rw [if_neg c4] at H
    have aj : decide (aa < (ad.length : Int)) = false := decide_eq_false c4
    clear c4
    obtain rfl := Option.some.inj H
    obtain ⟨Ao9, co9, eo9⟩ := Kd.R_slice HO_4.out
    subst eo9
    go_wp2
    go_ret
    exact ⟨_, Qe, Qr HO_3.out, Qw HB.out⟩
end Go.Proofs.YtljadeeoaoiilaaGreatDoor.P
