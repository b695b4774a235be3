/- tag.Same, walked by hand: two tags are the same if all of theirs is. -/
import Derived.Test.YtljadeeoaoiilaaPx11
import Derived.Lib.Hide
namespace Go.Proofs.Ytljadeeoaoiilaa.P
open Go.RowKit Go.Shelf Go.Proofs.YtljadeeoaoiilaaW.PrintWords
attribute [local go_sem] Oper.semAt_some
set_option linter.unusedVariables false
set_option linter.unusedSimpArgs false
theorem ba_inj6 {x y : ByteArray} (h : x.toList = y.toList) : x = y := by
  rw [Go.ByteArray.toList_eq, Go.ByteArray.toList_eq] at h
  exact ByteArray.ext (Array.toList_inj.1 h)
theorem ba_same {x y : ByteArray} : x.toList = y.toList ↔ x = y := ⟨ba_inj6, fun h => by rw [h]⟩
theorem equal_l0 (xs ys : List ByteArray) (hxy : xs.length = ys.length) (hn : xs.length ≤ 9223372036854775807) : ∀ (d i : Nat), d + i = xs.length → ∃ k, slices_Equal_string_string.l0 k xs ys (xs.length : Int) (i : Int) = some (decide (xs.drop i = ys.drop i)) := by
  intro d
  induction d with
  | zero =>
    intro i hi
    refine ⟨1, ?_⟩
    unfold slices_Equal_string_string.l0
    rw [if_neg (by omega), List.drop_eq_nil_of_le (by omega), List.drop_eq_nil_of_le (by omega)]
    rfl
  | succ d ih =>
    intro i hi
    obtain ⟨k, hk⟩ := ih (i + 1) (by omega)
    refine ⟨k + 1, ?_⟩
    have hx : i < xs.length := by omega
    have hy : i < ys.length := by omega
    have ex : rdOf ByteArray.empty xs (i : Int) = xs[i] := by unfold rdOf; rw [Int.toNat_natCast, List.getD_eq_getElem?_getD, List.getElem?_eq_getElem hx]; rfl
    have ey : rdOf ByteArray.empty ys (i : Int) = ys[i] := by unfold rdOf; rw [Int.toNat_natCast, List.getD_eq_getElem?_getD, List.getElem?_eq_getElem hy]; rfl
    have hw : wrap64 ((i : Int) + 1) = ((i + 1 : Nat) : Int) := by unfold wrap64; omega
    unfold slices_Equal_string_string.l0
    rw [if_pos (by omega), if_pos (by omega), if_pos (by omega), if_pos (by omega), ex, ey, hw, List.drop_eq_getElem_cons hx, List.drop_eq_getElem_cons hy]
    by_cases c : xs[i] = ys[i]
    · rw [if_pos (ba_same.2 c), hk, c]
      simp only [List.cons.injEq, true_and]
    · rw [if_neg (fun h => c (ba_same.1 h))]
      simp only [List.cons.injEq, c, false_and, decide_false]
/-- slices.Equal of two rows of texts. -/
theorem Equal_any (A0 : Option Addr) (c0 : Nat) (l0 : List ByteArray) (A1 : Option Addr) (c1 : Nat) (l1 : List ByteArray) (w : World) (hr0 : Kd.C Kd.string w A0 l0.length l0) (hc0 : l0.length ≤ c0) (hr1 : Kd.C Kd.string w A1 l1.length l1) (hc1 : l1.length ≤ c1) :
    Calls Try.prog 39 #[.slice A0 l0.length c0, .slice A1 l1.length c1] w fun e w' => e = .returned (.bool (decide (l0 = l1))) ∧ Drawn0 w w' := by
  by_cases hl : l0.length = l1.length
  · obtain ⟨k, hk⟩ := equal_l0 l0 l1 hl (Kd.C_max hr0) l0.length 0 rfl
    refine slices_Equal_string_string.calls k A0 c0 l0 A1 c1 l1 _ w hr0 hc0 hr1 hc1 ?_
    unfold slices_Equal_string_string.f
    rw [if_pos (by omega)]
    exact hk
  · refine slices_Equal_string_string.calls 0 A0 c0 l0 A1 c1 l1 _ w hr0 hc0 hr1 hc1 ?_
    unfold slices_Equal_string_string.f
    rw [if_neg (by omega), decide_eq_false (fun h => hl (by rw [h]))]
set_option maxHeartbeats 2000000 in
theorem same1_calls (x y : S44) (Ax : Option Addr) (cx : Nat) (Ay : Option Addr) (cy : Nat) (w : World) (hx : Kd.C Kd.string w Ax x.f1.length x.f1) (lx : x.f1.length ≤ cx) (hy : Kd.C Kd.string w Ay y.f1.length y.f1) (ly : y.f1.length ≤ cy) :
    Calls Try.prog 41 #[.agg #[.string x.f0, .slice Ax x.f1.length cx], .agg #[.string y.f0, .slice Ay y.f1.length cy]] w fun e w' => e = .returned (.bool (sameX x y)) ∧ Below w.heap.size w w' := by
  have HX := Lib.hid hx
  have HY := Lib.hid hy
  have LX := Lib.hid lx
  have LY := Lib.hid ly
  clear hx hy lx ly
  by_cases hk : x.f0 = y.f0
  · have c0 : (x.f0.toList == y.f0.toList) = true := beq_iff_eq.2 (ba_same.2 hk)
    have HK := Lib.hid hk
    clear hk
    go_enter Try.func41, Try.ntmps41
    go_wp2_with (go_at_call 39; refine (Equal_any Ax cx x.f1 Ay cy y.f1 _ (Kd.C_alloc (Kd.C_alloc HX.out _) _) LX.out (Kd.C_alloc (Kd.C_alloc HY.out _) _) LY.out).mono ?_; rintro e w2 ⟨rfl, hd⟩)
    go_ret
    obtain ⟨nd, rfl⟩ := hd
    refine ⟨?_, pw_below_drewN (((Below.refl w.heap.size w).alloc (Nat.le_refl _) _).alloc (by simp) _) nd⟩
    unfold sameX
    rw [decide_eq_true HK.out, Bool.true_and]
    rfl
  · have c0 : (x.f0.toList == y.f0.toList) = false := beq_eq_false_iff_ne.2 (fun h => hk (ba_same.1 h))
    have HK := Lib.hid hk
    clear hk
    go_enter Try.func41, Try.ntmps41
    go_wp2
    go_ret
    refine ⟨?_, (((Below.refl w.heap.size w).alloc (Nat.le_refl _) _).alloc (by simp) _)⟩
    unfold sameX
    rw [decide_eq_false HK.out, Bool.false_and]
    rfl
theorem sameL_ne : ∀ (xs ys : List S44), xs.length ≠ ys.length → sameL xs ys = false
  | [], [], h => absurd rfl h
  | [], _ :: _, _ => rfl
  | _ :: _, [], _ => rfl
  | x :: xs, y :: ys, h => by
    unfold sameL
    rw [sameL_ne xs ys (fun e => h (by rw [List.length_cons, List.length_cons, e])), Bool.and_false]
theorem getR (xs : List S44) (i : Nat) (h : i < xs.length) : rd_T44 xs (i : Int) = xs[i] := by
  unfold rd_T44
  rw [Int.toNat_natCast, List.getD_eq_getElem?_getD, List.getElem?_eq_getElem h]; rfl
set_option maxRecDepth 100000 in
set_option maxHeartbeats 4000000 in
theorem EqualFunc_calls (A0 : Option Addr) (c0 : Nat) (l0 : List S44) (A1 : Option Addr) (c1 : Nat) (l1 : List S44) (w : World) (hr0 : Kd.C k44 w A0 l0.length l0) (hc0 : l0.length ≤ c0) (hr1 : Kd.C k44 w A1 l1.length l1) (hc1 : l1.length ≤ c1) :
    Calls Try.prog 40 #[.slice A0 l0.length c0, .slice A1 l1.length c1, .func (.func 41) #[] #[]] w fun e w' => e = .returned (.bool (sameL l0 l1)) ∧ Below w.heap.size w w' := by
  by_cases hl : l0.length = l1.length
  · have hmax := Kd.C_max hr0
    have e0 : ((l0.length : Int) != (l1.length : Int)) = false := by rw [bne_eq_false_iff_eq]; omega
    have HR0 := Lib.hid hr0
    have HR1 := Lib.hid hr1
    have HL := Lib.hid hl
    have HM := Lib.hid hmax
    clear hr0 hr1 hc0 hc1 hl hmax
    go_enter Try.func40, Try.ntmps40
    go_wp2
    go_loopw [17] (fun iv wr => ∃ i : Nat, iv = .int .i64 (i : Int) ∧ Hid (i ≤ l0.length) ∧ Hid (sameL (l0.drop i) (l1.drop i) = sameL l0 l1) ∧ Hid (Below w.heap.size w wr)) (fun iv _ => l0.length - (intOf iv).toNat)
    case atStart => exact ⟨0, rfl, Lib.hid (Nat.zero_le _), Lib.hid rfl, Lib.hid (Below.refl _ _)⟩
    case round =>
      obtain ⟨i, rfl, hi, hs, hb⟩ := hrel
      by_cases hlt : i < l0.length
      · have hlt1 : i < l1.length := by have := HL.out; omega
        have hm := HM.out
        have hw2 : wrap64 ((i : Int) + 1) = ((i + 1 : Nat) : Int) := by unfold wrap64; omega
        obtain ⟨ad, B0, d0, hA, hx0, hx1, lx, gx⟩ := at_T44 (Kd.C_below HR0.out hb.out) (i : Int) (by omega) (by omega)
        obtain ⟨ad', B1, d1, hA', hy0, hy1, ly, gy⟩ := at_T44 (Kd.C_below HR1.out hb.out) (i : Int) (by omega) (by omega)
        subst hA hA'
        rw [Int.toNat_natCast] at hx0 hx1 hy0 hy1
        rw [getR l0 i hlt] at hx0 hx1 lx gx
        rw [getR l1 i hlt1] at hy0 hy1 ly gy
        have hi0 : (0 : Int) ≤ (i : Int) := Int.natCast_nonneg _
        have q0 : ((i : Int) < (l0.length : Int)) := by omega
        have q1 : ((i : Int) < (l1.length : Int)) := by omega
        have q2 : decide ((i : Int) < (l0.length : Int)) = true := decide_eq_true q0
        have q3 : decide ((i : Int) < (l1.length : Int)) = true := decide_eq_true q1
        have hd : sameL (l0.drop i) (l1.drop i) = (sameX l0[i] l1[i] && sameL (l0.drop (i + 1)) (l1.drop (i + 1))) := by
          rw [List.drop_eq_getElem_cons hlt, List.drop_eq_getElem_cons hlt1]; rfl
        have hb1 : Below wr.heap.size wr (wr.alloc (.cells #[.string l0[i].f0, .slice B0 l0[i].f1.length d0] 44)) := (Below.refl wr.heap.size wr).alloc (Nat.le_refl _) _
        have hy0' := pw_cell_below hb1 hy0
        have hy1' := pw_cell_below hb1 hy1
        have GX := Lib.hid gx
        have GY := Lib.hid gy
        have LX := Lib.hid lx
        have LY := Lib.hid ly
        obtain ⟨b, hsx⟩ : ∃ b, sameX l0[i] l1[i] = b := ⟨_, rfl⟩
        have HD : Hid (sameL (l0.drop i) (l1.drop i) = (b && sameL (l0.drop (i + 1)) (l1.drop (i + 1)))) := Lib.hid (hd.trans (by rw [← hsx]))
        have SC := Lib.hid (fun (V : World) (h1 : Kd.C Kd.string V B0 l0[i].f1.length l0[i].f1) (h2 : Kd.C Kd.string V B1 l1[i].f1.length l1[i].f1) => show Calls Try.prog 41 #[.agg #[.string l0[i].f0, .slice B0 l0[i].f1.length d0], .agg #[.string l1[i].f0, .slice B1 l1[i].f1.length d1]] V fun e w' => e = .returned (.bool b) ∧ Below V.heap.size V w' by
          rw [← hsx]; exact same1_calls l0[i] l1[i] B0 d0 B1 d1 V h1 LX.out h2 LY.out)
        have HLT := Lib.hid hlt
        have HW2 := Lib.hid hw2
        clear gx gy lx ly hd hm hi hb1 hy0 hy1
        cases b
        all_goals
          clear hsx
          go_wp2_with (go_at_call 41; refine (SC.out _ (Kd.C_alloc (Kd.C_alloc GX.out _) _) (Kd.C_alloc (Kd.C_alloc GY.out _) _)).mono ?_; rintro e w2 ⟨rfl, hb2⟩)
        · go_ret
          refine ⟨?_, below_step ((hb.out.alloc hb.out.size _).alloc (by have := hb.out.size; simp; omega) _) hb2⟩
          rw [← hs.out, HD.out]
          rfl
        · refine ⟨⟨i + 1, by rw [HW2.out], Lib.hid (Nat.succ_le_of_lt HLT.out), Lib.hid (by rw [← hs.out, HD.out]; rfl), Lib.hid (below_step ((hb.out.alloc hb.out.size _).alloc (by have := hb.out.size; simp; omega) _) hb2)⟩, ?_⟩
          rw [HW2.out]
          show l0.length - ((i + 1 : Nat) : Int).toNat < l0.length - (i : Int).toNat
          have := HLT.out
          omega
      · have q2 : ¬ ((i : Int) < (l0.length : Int)) := by omega
        have HIL := Lib.hid (show l0.length ≤ i by omega)
        go_wp2
        go_ret
        refine ⟨?_, hb.out⟩
        rw [← hs.out, List.drop_eq_nil_of_le HIL.out, List.drop_eq_nil_of_le (by rw [← HL.out]; exact HIL.out)]
        rfl
  · have e0 : ((l0.length : Int) != (l1.length : Int)) = true := by rw [bne_iff_ne]; omega
    have HL := Lib.hid hl
    clear hr0 hr1 hc0 hc1 hl
    go_enter Try.func40, Try.ntmps40
    go_wp2
    go_ret
    exact ⟨by rw [sameL_ne _ _ HL.out]; rfl, Below.refl _ _⟩
/-- The value of a tag; its rows lie in the memory. -/
def TagC (W : World) (T : TG) (v : Value) : Prop := ∃ A1 c1 A4 c4 A5 c5 A6 c6, v = .agg #[.string T.lang, .slice A1 T.ext.length c1, .string T.script, .string T.region, .slice A4 T.vars.length c4, .slice A5 T.exts.length c5, .slice A6 T.priv.length c6, .string T.grand] ∧
  (Kd.C Kd.string W A1 T.ext.length T.ext ∧ T.ext.length ≤ c1) ∧ (Kd.C Kd.string W A4 T.vars.length T.vars ∧ T.vars.length ≤ c4) ∧ (Kd.C k44 W A5 T.exts.length T.exts ∧ T.exts.length ≤ c5) ∧ (Kd.C Kd.string W A6 T.priv.length T.priv ∧ T.priv.length ≤ c6)
theorem TagC.below {W W' : World} {T : TG} {v : Value} (h : TagC W T v) (hb : Below W.heap.size W W') : TagC W' T v := by
  obtain ⟨A1, c1, A4, c4, A5, c5, A6, c6, e, h1, h4, h5, h6⟩ := h
  exact ⟨A1, c1, A4, c4, A5, c5, A6, c6, e, ⟨Kd.C_below h1.1 hb, h1.2⟩, ⟨Kd.C_below h4.1 hb, h4.2⟩, ⟨Kd.C_below h5.1 hb, h5.2⟩, ⟨Kd.C_below h6.1 hb, h6.2⟩⟩
theorem EqualB {w : World} {A0 : Option Addr} {c0 : Nat} {l0 : List ByteArray} {A1 : Option Addr} {c1 : Nat} {l1 : List ByteArray} (h0 : Kd.C Kd.string w A0 l0.length l0 ∧ l0.length ≤ c0) (h1 : Kd.C Kd.string w A1 l1.length l1 ∧ l1.length ≤ c1) (b : Bool) (hb : decide (l0 = l1) = b) (V : World) (hV : Below w.heap.size w V) :
    Calls Try.prog 39 #[.slice A0 l0.length c0, .slice A1 l1.length c1] V fun e w' => e = .returned (.bool b) ∧ (∀ p v, V.cell? p = some v → w'.cell? p = some v) ∧ Below w.heap.size w w' := by
  rw [← hb]
  exact (Equal_any A0 c0 l0 A1 c1 l1 V (Kd.C_below h0.1 hV) h0.2 (Kd.C_below h1.1 hV) h1.2).mono fun e w' ⟨he, ⟨nd, hd⟩⟩ => ⟨he, by rw [hd]; exact fun p v h => pw_cell_below (pw_below_drewN (Below.refl V.heap.size V) nd) h, by rw [hd]; exact pw_below_drewN hV nd⟩
theorem EqualFuncB {w : World} {A0 : Option Addr} {c0 : Nat} {l0 : List S44} {A1 : Option Addr} {c1 : Nat} {l1 : List S44} (h0 : Kd.C k44 w A0 l0.length l0 ∧ l0.length ≤ c0) (h1 : Kd.C k44 w A1 l1.length l1 ∧ l1.length ≤ c1) (b : Bool) (hb : sameL l0 l1 = b) (V : World) (hV : Below w.heap.size w V) :
    Calls Try.prog 40 #[.slice A0 l0.length c0, .slice A1 l1.length c1, .func (.func 41) #[] #[]] V fun e w' => e = .returned (.bool b) ∧ Below w.heap.size w w' := by
  rw [← hb]
  exact (EqualFunc_calls A0 c0 l0 A1 c1 l1 V (Kd.C_below h0.1 hV) h0.2 (Kd.C_below h1.1 hV) h1.2).mono fun e w' ⟨he, hd⟩ => ⟨he, below_step hV hd⟩
theorem two_blk (w : World) (cs zs : Array Value) (t : TypeId) (j : Nat) : ((w.alloc (.cells cs t)).alloc (.cells zs t)).cell? ⟨w.heap.size, j, none⟩ = cs[j]? ∧ ((w.alloc (.cells cs t)).alloc (.cells zs t)).cell? ⟨w.heap.size + 1, j, none⟩ = zs[j]? := by
  constructor
  · refine blk_cell (t := t) ?_ j
    show ((w.heap.push _).push _)[w.heap.size]? = _
    simp [Array.getElem?_push]
  · refine blk_cell (t := t) ?_ j
    show ((w.heap.push (.cells cs t)).push (.cells zs t))[w.heap.size + 1]? = _
    rw [show w.heap.size + 1 = (w.heap.push (.cells cs t)).size by rw [Array.size_push]]
    exact Array.getElem?_push_size
set_option maxRecDepth 100000 in
set_option maxHeartbeats 2000000 in
theorem same_leaf0 (T U : TG) (A1 : Option Addr) (c1 : Nat) (A4 : Option Addr) (c4 : Nat) (A5 : Option Addr) (c5 : Nat) (A6 : Option Addr) (c6 : Nat) (B1 : Option Addr) (d1 : Nat) (B4 : Option Addr) (d4 : Nat) (B5 : Option Addr) (d5 : Nat) (B6 : Option Addr) (d6 : Nat) (w : World) (h1 : Kd.C Kd.string w A1 T.ext.length T.ext ∧ T.ext.length ≤ c1) (h4 : Kd.C Kd.string w A4 T.vars.length T.vars ∧ T.vars.length ≤ c4) (h5 : Kd.C k44 w A5 T.exts.length T.exts ∧ T.exts.length ≤ c5) (h6 : Kd.C Kd.string w A6 T.priv.length T.priv ∧ T.priv.length ≤ c6) (g1 : Kd.C Kd.string w B1 U.ext.length U.ext ∧ U.ext.length ≤ d1) (g4 : Kd.C Kd.string w B4 U.vars.length U.vars ∧ U.vars.length ≤ d4) (g5 : Kd.C k44 w B5 U.exts.length U.exts ∧ U.exts.length ≤ d5) (g6 : Kd.C Kd.string w B6 U.priv.length U.priv ∧ U.priv.length ≤ d6) (q0 : ¬ T.lang = U.lang) :
    Calls Try.prog 12 #[.agg #[.string T.lang, .slice A1 T.ext.length c1, .string T.script, .string T.region, .slice A4 T.vars.length c4, .slice A5 T.exts.length c5, .slice A6 T.priv.length c6, .string T.grand], .agg #[.string U.lang, .slice B1 U.ext.length d1, .string U.script, .string U.region, .slice B4 U.vars.length d4, .slice B5 U.exts.length d5, .slice B6 U.priv.length d6, .string U.grand]] w fun e w' => e = .returned (.bool false) ∧ Below w.heap.size w w' := by
  have H1 := Lib.hid h1
  have G1 := Lib.hid g1
  have H4 := Lib.hid h4
  have G4 := Lib.hid g4
  have H5 := Lib.hid h5
  have G5 := Lib.hid g5
  have H6 := Lib.hid h6
  have G6 := Lib.hid g6
  have Q0 := Lib.hid q0
  clear h1 h4 h5 h6 g1 g4 g5 g6 q0
  have c0 : (T.lang.toList == U.lang.toList) = false := beq_eq_false_iff_ne.2 (fun h => Q0.out (ba_same.1 h))
  go_enter Try.func12, Try.ntmps12
  go_wp2
  go_ret
  exact ⟨rfl, (((Below.refl w.heap.size w).alloc (Nat.le_refl _) _).alloc (by simp) _)⟩
set_option maxRecDepth 100000 in
set_option maxHeartbeats 2000000 in
theorem same_leaf1 (T U : TG) (A1 : Option Addr) (c1 : Nat) (A4 : Option Addr) (c4 : Nat) (A5 : Option Addr) (c5 : Nat) (A6 : Option Addr) (c6 : Nat) (B1 : Option Addr) (d1 : Nat) (B4 : Option Addr) (d4 : Nat) (B5 : Option Addr) (d5 : Nat) (B6 : Option Addr) (d6 : Nat) (w : World) (h1 : Kd.C Kd.string w A1 T.ext.length T.ext ∧ T.ext.length ≤ c1) (h4 : Kd.C Kd.string w A4 T.vars.length T.vars ∧ T.vars.length ≤ c4) (h5 : Kd.C k44 w A5 T.exts.length T.exts ∧ T.exts.length ≤ c5) (h6 : Kd.C Kd.string w A6 T.priv.length T.priv ∧ T.priv.length ≤ c6) (g1 : Kd.C Kd.string w B1 U.ext.length U.ext ∧ U.ext.length ≤ d1) (g4 : Kd.C Kd.string w B4 U.vars.length U.vars ∧ U.vars.length ≤ d4) (g5 : Kd.C k44 w B5 U.exts.length U.exts ∧ U.exts.length ≤ d5) (g6 : Kd.C Kd.string w B6 U.priv.length U.priv ∧ U.priv.length ≤ d6) (q0 : T.lang = U.lang) (q1 : ¬ T.script = U.script) :
    Calls Try.prog 12 #[.agg #[.string T.lang, .slice A1 T.ext.length c1, .string T.script, .string T.region, .slice A4 T.vars.length c4, .slice A5 T.exts.length c5, .slice A6 T.priv.length c6, .string T.grand], .agg #[.string U.lang, .slice B1 U.ext.length d1, .string U.script, .string U.region, .slice B4 U.vars.length d4, .slice B5 U.exts.length d5, .slice B6 U.priv.length d6, .string U.grand]] w fun e w' => e = .returned (.bool false) ∧ Below w.heap.size w w' := by
  have H1 := Lib.hid h1
  have G1 := Lib.hid g1
  have H4 := Lib.hid h4
  have G4 := Lib.hid g4
  have H5 := Lib.hid h5
  have G5 := Lib.hid g5
  have H6 := Lib.hid h6
  have G6 := Lib.hid g6
  have Q0 := Lib.hid q0
  have Q1 := Lib.hid q1
  clear h1 h4 h5 h6 g1 g4 g5 g6 q0 q1
  have c0 : (T.lang.toList == U.lang.toList) = true := beq_iff_eq.2 (ba_same.2 Q0.out)
  have c1 : (T.script.toList == U.script.toList) = false := beq_eq_false_iff_ne.2 (fun h => Q1.out (ba_same.1 h))
  go_enter Try.func12, Try.ntmps12
  go_wp2
  go_ret
  exact ⟨rfl, (((Below.refl w.heap.size w).alloc (Nat.le_refl _) _).alloc (by simp) _)⟩
set_option maxRecDepth 100000 in
set_option maxHeartbeats 2000000 in
theorem same_leaf2 (T U : TG) (A1 : Option Addr) (c1 : Nat) (A4 : Option Addr) (c4 : Nat) (A5 : Option Addr) (c5 : Nat) (A6 : Option Addr) (c6 : Nat) (B1 : Option Addr) (d1 : Nat) (B4 : Option Addr) (d4 : Nat) (B5 : Option Addr) (d5 : Nat) (B6 : Option Addr) (d6 : Nat) (w : World) (h1 : Kd.C Kd.string w A1 T.ext.length T.ext ∧ T.ext.length ≤ c1) (h4 : Kd.C Kd.string w A4 T.vars.length T.vars ∧ T.vars.length ≤ c4) (h5 : Kd.C k44 w A5 T.exts.length T.exts ∧ T.exts.length ≤ c5) (h6 : Kd.C Kd.string w A6 T.priv.length T.priv ∧ T.priv.length ≤ c6) (g1 : Kd.C Kd.string w B1 U.ext.length U.ext ∧ U.ext.length ≤ d1) (g4 : Kd.C Kd.string w B4 U.vars.length U.vars ∧ U.vars.length ≤ d4) (g5 : Kd.C k44 w B5 U.exts.length U.exts ∧ U.exts.length ≤ d5) (g6 : Kd.C Kd.string w B6 U.priv.length U.priv ∧ U.priv.length ≤ d6) (q0 : T.lang = U.lang) (q1 : T.script = U.script) (q2 : ¬ T.region = U.region) :
    Calls Try.prog 12 #[.agg #[.string T.lang, .slice A1 T.ext.length c1, .string T.script, .string T.region, .slice A4 T.vars.length c4, .slice A5 T.exts.length c5, .slice A6 T.priv.length c6, .string T.grand], .agg #[.string U.lang, .slice B1 U.ext.length d1, .string U.script, .string U.region, .slice B4 U.vars.length d4, .slice B5 U.exts.length d5, .slice B6 U.priv.length d6, .string U.grand]] w fun e w' => e = .returned (.bool false) ∧ Below w.heap.size w w' := by
  have H1 := Lib.hid h1
  have G1 := Lib.hid g1
  have H4 := Lib.hid h4
  have G4 := Lib.hid g4
  have H5 := Lib.hid h5
  have G5 := Lib.hid g5
  have H6 := Lib.hid h6
  have G6 := Lib.hid g6
  have Q0 := Lib.hid q0
  have Q1 := Lib.hid q1
  have Q2 := Lib.hid q2
  clear h1 h4 h5 h6 g1 g4 g5 g6 q0 q1 q2
  have c0 : (T.lang.toList == U.lang.toList) = true := beq_iff_eq.2 (ba_same.2 Q0.out)
  have c1 : (T.script.toList == U.script.toList) = true := beq_iff_eq.2 (ba_same.2 Q1.out)
  have c2 : (T.region.toList == U.region.toList) = false := beq_eq_false_iff_ne.2 (fun h => Q2.out (ba_same.1 h))
  go_enter Try.func12, Try.ntmps12
  go_wp2
  go_ret
  exact ⟨rfl, (((Below.refl w.heap.size w).alloc (Nat.le_refl _) _).alloc (by simp) _)⟩
set_option maxRecDepth 100000 in
set_option maxHeartbeats 2000000 in
theorem same_leaf3 (T U : TG) (A1 : Option Addr) (c1 : Nat) (A4 : Option Addr) (c4 : Nat) (A5 : Option Addr) (c5 : Nat) (A6 : Option Addr) (c6 : Nat) (B1 : Option Addr) (d1 : Nat) (B4 : Option Addr) (d4 : Nat) (B5 : Option Addr) (d5 : Nat) (B6 : Option Addr) (d6 : Nat) (w : World) (h1 : Kd.C Kd.string w A1 T.ext.length T.ext ∧ T.ext.length ≤ c1) (h4 : Kd.C Kd.string w A4 T.vars.length T.vars ∧ T.vars.length ≤ c4) (h5 : Kd.C k44 w A5 T.exts.length T.exts ∧ T.exts.length ≤ c5) (h6 : Kd.C Kd.string w A6 T.priv.length T.priv ∧ T.priv.length ≤ c6) (g1 : Kd.C Kd.string w B1 U.ext.length U.ext ∧ U.ext.length ≤ d1) (g4 : Kd.C Kd.string w B4 U.vars.length U.vars ∧ U.vars.length ≤ d4) (g5 : Kd.C k44 w B5 U.exts.length U.exts ∧ U.exts.length ≤ d5) (g6 : Kd.C Kd.string w B6 U.priv.length U.priv ∧ U.priv.length ≤ d6) (q0 : T.lang = U.lang) (q1 : T.script = U.script) (q2 : T.region = U.region) (q3 : ¬ T.grand = U.grand) :
    Calls Try.prog 12 #[.agg #[.string T.lang, .slice A1 T.ext.length c1, .string T.script, .string T.region, .slice A4 T.vars.length c4, .slice A5 T.exts.length c5, .slice A6 T.priv.length c6, .string T.grand], .agg #[.string U.lang, .slice B1 U.ext.length d1, .string U.script, .string U.region, .slice B4 U.vars.length d4, .slice B5 U.exts.length d5, .slice B6 U.priv.length d6, .string U.grand]] w fun e w' => e = .returned (.bool false) ∧ Below w.heap.size w w' := by
  have H1 := Lib.hid h1
  have G1 := Lib.hid g1
  have H4 := Lib.hid h4
  have G4 := Lib.hid g4
  have H5 := Lib.hid h5
  have G5 := Lib.hid g5
  have H6 := Lib.hid h6
  have G6 := Lib.hid g6
  have Q0 := Lib.hid q0
  have Q1 := Lib.hid q1
  have Q2 := Lib.hid q2
  have Q3 := Lib.hid q3
  clear h1 h4 h5 h6 g1 g4 g5 g6 q0 q1 q2 q3
  have c0 : (T.lang.toList == U.lang.toList) = true := beq_iff_eq.2 (ba_same.2 Q0.out)
  have c1 : (T.script.toList == U.script.toList) = true := beq_iff_eq.2 (ba_same.2 Q1.out)
  have c2 : (T.region.toList == U.region.toList) = true := beq_iff_eq.2 (ba_same.2 Q2.out)
  have c3 : (T.grand.toList == U.grand.toList) = false := beq_eq_false_iff_ne.2 (fun h => Q3.out (ba_same.1 h))
  go_enter Try.func12, Try.ntmps12
  go_wp2
  go_ret
  exact ⟨rfl, (((Below.refl w.heap.size w).alloc (Nat.le_refl _) _).alloc (by simp) _)⟩
set_option maxRecDepth 100000 in
set_option maxHeartbeats 2000000 in
theorem same_leaf4 (T U : TG) (A1 : Option Addr) (c1 : Nat) (A4 : Option Addr) (c4 : Nat) (A5 : Option Addr) (c5 : Nat) (A6 : Option Addr) (c6 : Nat) (B1 : Option Addr) (d1 : Nat) (B4 : Option Addr) (d4 : Nat) (B5 : Option Addr) (d5 : Nat) (B6 : Option Addr) (d6 : Nat) (w : World) (h1 : Kd.C Kd.string w A1 T.ext.length T.ext ∧ T.ext.length ≤ c1) (h4 : Kd.C Kd.string w A4 T.vars.length T.vars ∧ T.vars.length ≤ c4) (h5 : Kd.C k44 w A5 T.exts.length T.exts ∧ T.exts.length ≤ c5) (h6 : Kd.C Kd.string w A6 T.priv.length T.priv ∧ T.priv.length ≤ c6) (g1 : Kd.C Kd.string w B1 U.ext.length U.ext ∧ U.ext.length ≤ d1) (g4 : Kd.C Kd.string w B4 U.vars.length U.vars ∧ U.vars.length ≤ d4) (g5 : Kd.C k44 w B5 U.exts.length U.exts ∧ U.exts.length ≤ d5) (g6 : Kd.C Kd.string w B6 U.priv.length U.priv ∧ U.priv.length ≤ d6) (q0 : T.lang = U.lang) (q1 : T.script = U.script) (q2 : T.region = U.region) (q3 : T.grand = U.grand) (q4 : ¬ T.ext = U.ext) :
    Calls Try.prog 12 #[.agg #[.string T.lang, .slice A1 T.ext.length c1, .string T.script, .string T.region, .slice A4 T.vars.length c4, .slice A5 T.exts.length c5, .slice A6 T.priv.length c6, .string T.grand], .agg #[.string U.lang, .slice B1 U.ext.length d1, .string U.script, .string U.region, .slice B4 U.vars.length d4, .slice B5 U.exts.length d5, .slice B6 U.priv.length d6, .string U.grand]] w fun e w' => e = .returned (.bool false) ∧ Below w.heap.size w w' := by
  have H1 := Lib.hid h1
  have G1 := Lib.hid g1
  have H4 := Lib.hid h4
  have G4 := Lib.hid g4
  have H5 := Lib.hid h5
  have G5 := Lib.hid g5
  have H6 := Lib.hid h6
  have G6 := Lib.hid g6
  have Q0 := Lib.hid q0
  have Q1 := Lib.hid q1
  have Q2 := Lib.hid q2
  have Q3 := Lib.hid q3
  have Q4 := Lib.hid q4
  clear h1 h4 h5 h6 g1 g4 g5 g6 q0 q1 q2 q3 q4
  have c0 : (T.lang.toList == U.lang.toList) = true := beq_iff_eq.2 (ba_same.2 Q0.out)
  have c1 : (T.script.toList == U.script.toList) = true := beq_iff_eq.2 (ba_same.2 Q1.out)
  have c2 : (T.region.toList == U.region.toList) = true := beq_iff_eq.2 (ba_same.2 Q2.out)
  have c3 : (T.grand.toList == U.grand.toList) = true := beq_iff_eq.2 (ba_same.2 Q3.out)
  go_enter Try.func12, Try.ntmps12
  go_wp2_with (first | (go_at_call 39; (with_reducible refine (EqualB H1.out G1.out false (decide_eq_false Q4.out) _ (((Below.refl w.heap.size w).alloc (Nat.le_refl _) _).alloc (by simp) _)).mono ?_); rintro e w4 ⟨rfl, hk4, hb4⟩; have K4 := Lib.hid hb4; clear hb4 hk4))
  go_ret
  exact ⟨rfl, K4.out⟩
set_option maxRecDepth 100000 in
set_option maxHeartbeats 2000000 in
theorem same_leaf5 (T U : TG) (A1 : Option Addr) (c1 : Nat) (A4 : Option Addr) (c4 : Nat) (A5 : Option Addr) (c5 : Nat) (A6 : Option Addr) (c6 : Nat) (B1 : Option Addr) (d1 : Nat) (B4 : Option Addr) (d4 : Nat) (B5 : Option Addr) (d5 : Nat) (B6 : Option Addr) (d6 : Nat) (w : World) (h1 : Kd.C Kd.string w A1 T.ext.length T.ext ∧ T.ext.length ≤ c1) (h4 : Kd.C Kd.string w A4 T.vars.length T.vars ∧ T.vars.length ≤ c4) (h5 : Kd.C k44 w A5 T.exts.length T.exts ∧ T.exts.length ≤ c5) (h6 : Kd.C Kd.string w A6 T.priv.length T.priv ∧ T.priv.length ≤ c6) (g1 : Kd.C Kd.string w B1 U.ext.length U.ext ∧ U.ext.length ≤ d1) (g4 : Kd.C Kd.string w B4 U.vars.length U.vars ∧ U.vars.length ≤ d4) (g5 : Kd.C k44 w B5 U.exts.length U.exts ∧ U.exts.length ≤ d5) (g6 : Kd.C Kd.string w B6 U.priv.length U.priv ∧ U.priv.length ≤ d6) (q0 : T.lang = U.lang) (q1 : T.script = U.script) (q2 : T.region = U.region) (q3 : T.grand = U.grand) (q4 : T.ext = U.ext) (q5 : ¬ T.vars = U.vars) :
    Calls Try.prog 12 #[.agg #[.string T.lang, .slice A1 T.ext.length c1, .string T.script, .string T.region, .slice A4 T.vars.length c4, .slice A5 T.exts.length c5, .slice A6 T.priv.length c6, .string T.grand], .agg #[.string U.lang, .slice B1 U.ext.length d1, .string U.script, .string U.region, .slice B4 U.vars.length d4, .slice B5 U.exts.length d5, .slice B6 U.priv.length d6, .string U.grand]] w fun e w' => e = .returned (.bool false) ∧ Below w.heap.size w w' := by
  have H1 := Lib.hid h1
  have G1 := Lib.hid g1
  have H4 := Lib.hid h4
  have G4 := Lib.hid g4
  have H5 := Lib.hid h5
  have G5 := Lib.hid g5
  have H6 := Lib.hid h6
  have G6 := Lib.hid g6
  have Q0 := Lib.hid q0
  have Q1 := Lib.hid q1
  have Q2 := Lib.hid q2
  have Q3 := Lib.hid q3
  have Q4 := Lib.hid q4
  have Q5 := Lib.hid q5
  clear h1 h4 h5 h6 g1 g4 g5 g6 q0 q1 q2 q3 q4 q5
  have c0 : (T.lang.toList == U.lang.toList) = true := beq_iff_eq.2 (ba_same.2 Q0.out)
  have c1 : (T.script.toList == U.script.toList) = true := beq_iff_eq.2 (ba_same.2 Q1.out)
  have c2 : (T.region.toList == U.region.toList) = true := beq_iff_eq.2 (ba_same.2 Q2.out)
  have c3 : (T.grand.toList == U.grand.toList) = true := beq_iff_eq.2 (ba_same.2 Q3.out)
  go_enter Try.func12, Try.ntmps12
  go_wp2_with (first | (go_at_call 39; (with_reducible refine (EqualB H1.out G1.out true (decide_eq_true Q4.out) _ (((Below.refl w.heap.size w).alloc (Nat.le_refl _) _).alloc (by simp) _)).mono ?_); rintro e w4 ⟨rfl, hk4, hb4⟩; have K4 := Lib.hid hb4; have XA4 : w4.cell? ⟨w.heap.size, 4, none⟩ = some (.slice A4 T.vars.length c4) := hk4 _ _ ((two_blk w _ _ _ 4).1.trans rfl); have XB4 : w4.cell? ⟨w.heap.size + 1, 4, none⟩ = some (.slice B4 U.vars.length d4) := hk4 _ _ ((two_blk w _ _ _ 4).2.trans rfl); clear hb4 hk4) | (go_at_call 39; (with_reducible refine (EqualB H4.out G4.out false (decide_eq_false Q5.out) _ K4.out).mono ?_); rintro e w5 ⟨rfl, hk5, hb5⟩; have K5 := Lib.hid hb5; clear hb5 hk5))
  go_ret
  exact ⟨rfl, K5.out⟩
set_option maxRecDepth 100000 in
set_option maxHeartbeats 2000000 in
theorem same_leaf6 (T U : TG) (A1 : Option Addr) (c1 : Nat) (A4 : Option Addr) (c4 : Nat) (A5 : Option Addr) (c5 : Nat) (A6 : Option Addr) (c6 : Nat) (B1 : Option Addr) (d1 : Nat) (B4 : Option Addr) (d4 : Nat) (B5 : Option Addr) (d5 : Nat) (B6 : Option Addr) (d6 : Nat) (w : World) (h1 : Kd.C Kd.string w A1 T.ext.length T.ext ∧ T.ext.length ≤ c1) (h4 : Kd.C Kd.string w A4 T.vars.length T.vars ∧ T.vars.length ≤ c4) (h5 : Kd.C k44 w A5 T.exts.length T.exts ∧ T.exts.length ≤ c5) (h6 : Kd.C Kd.string w A6 T.priv.length T.priv ∧ T.priv.length ≤ c6) (g1 : Kd.C Kd.string w B1 U.ext.length U.ext ∧ U.ext.length ≤ d1) (g4 : Kd.C Kd.string w B4 U.vars.length U.vars ∧ U.vars.length ≤ d4) (g5 : Kd.C k44 w B5 U.exts.length U.exts ∧ U.exts.length ≤ d5) (g6 : Kd.C Kd.string w B6 U.priv.length U.priv ∧ U.priv.length ≤ d6) (q0 : T.lang = U.lang) (q1 : T.script = U.script) (q2 : T.region = U.region) (q3 : T.grand = U.grand) (q4 : T.ext = U.ext) (q5 : T.vars = U.vars) (q6 : ¬ T.priv = U.priv) :
    Calls Try.prog 12 #[.agg #[.string T.lang, .slice A1 T.ext.length c1, .string T.script, .string T.region, .slice A4 T.vars.length c4, .slice A5 T.exts.length c5, .slice A6 T.priv.length c6, .string T.grand], .agg #[.string U.lang, .slice B1 U.ext.length d1, .string U.script, .string U.region, .slice B4 U.vars.length d4, .slice B5 U.exts.length d5, .slice B6 U.priv.length d6, .string U.grand]] w fun e w' => e = .returned (.bool false) ∧ Below w.heap.size w w' := by
  have H1 := Lib.hid h1
  have G1 := Lib.hid g1
  have H4 := Lib.hid h4
  have G4 := Lib.hid g4
  have H5 := Lib.hid h5
  have G5 := Lib.hid g5
  have H6 := Lib.hid h6
  have G6 := Lib.hid g6
  have Q0 := Lib.hid q0
  have Q1 := Lib.hid q1
  have Q2 := Lib.hid q2
  have Q3 := Lib.hid q3
  have Q4 := Lib.hid q4
  have Q5 := Lib.hid q5
  have Q6 := Lib.hid q6
  clear h1 h4 h5 h6 g1 g4 g5 g6 q0 q1 q2 q3 q4 q5 q6
  have c0 : (T.lang.toList == U.lang.toList) = true := beq_iff_eq.2 (ba_same.2 Q0.out)
  have c1 : (T.script.toList == U.script.toList) = true := beq_iff_eq.2 (ba_same.2 Q1.out)
  have c2 : (T.region.toList == U.region.toList) = true := beq_iff_eq.2 (ba_same.2 Q2.out)
  have c3 : (T.grand.toList == U.grand.toList) = true := beq_iff_eq.2 (ba_same.2 Q3.out)
  go_enter Try.func12, Try.ntmps12
  go_wp2_with (first | (go_at_call 39; (with_reducible refine (EqualB H1.out G1.out true (decide_eq_true Q4.out) _ (((Below.refl w.heap.size w).alloc (Nat.le_refl _) _).alloc (by simp) _)).mono ?_); rintro e w4 ⟨rfl, hk4, hb4⟩; have K4 := Lib.hid hb4; have XA4 : w4.cell? ⟨w.heap.size, 4, none⟩ = some (.slice A4 T.vars.length c4) := hk4 _ _ ((two_blk w _ _ _ 4).1.trans rfl); have XB4 : w4.cell? ⟨w.heap.size + 1, 4, none⟩ = some (.slice B4 U.vars.length d4) := hk4 _ _ ((two_blk w _ _ _ 4).2.trans rfl); have XA6 : w4.cell? ⟨w.heap.size, 6, none⟩ = some (.slice A6 T.priv.length c6) := hk4 _ _ ((two_blk w _ _ _ 6).1.trans rfl); have XB6 : w4.cell? ⟨w.heap.size + 1, 6, none⟩ = some (.slice B6 U.priv.length d6) := hk4 _ _ ((two_blk w _ _ _ 6).2.trans rfl); clear hb4 hk4) | (go_at_call 39; (with_reducible refine (EqualB H4.out G4.out true (decide_eq_true Q5.out) _ K4.out).mono ?_); rintro e w5 ⟨rfl, hk5, hb5⟩; have K5 := Lib.hid hb5; have XA6 := hk5 _ _ XA6; have XB6 := hk5 _ _ XB6; clear hb5 hk5) | (go_at_call 39; (with_reducible refine (EqualB H6.out G6.out false (decide_eq_false Q6.out) _ K5.out).mono ?_); rintro e w6 ⟨rfl, hk6, hb6⟩; have K6 := Lib.hid hb6; clear hb6 hk6))
  go_ret
  exact ⟨rfl, K6.out⟩
set_option maxRecDepth 100000 in
set_option maxHeartbeats 2000000 in
theorem same_leaf7 (T U : TG) (A1 : Option Addr) (c1 : Nat) (A4 : Option Addr) (c4 : Nat) (A5 : Option Addr) (c5 : Nat) (A6 : Option Addr) (c6 : Nat) (B1 : Option Addr) (d1 : Nat) (B4 : Option Addr) (d4 : Nat) (B5 : Option Addr) (d5 : Nat) (B6 : Option Addr) (d6 : Nat) (w : World) (h1 : Kd.C Kd.string w A1 T.ext.length T.ext ∧ T.ext.length ≤ c1) (h4 : Kd.C Kd.string w A4 T.vars.length T.vars ∧ T.vars.length ≤ c4) (h5 : Kd.C k44 w A5 T.exts.length T.exts ∧ T.exts.length ≤ c5) (h6 : Kd.C Kd.string w A6 T.priv.length T.priv ∧ T.priv.length ≤ c6) (g1 : Kd.C Kd.string w B1 U.ext.length U.ext ∧ U.ext.length ≤ d1) (g4 : Kd.C Kd.string w B4 U.vars.length U.vars ∧ U.vars.length ≤ d4) (g5 : Kd.C k44 w B5 U.exts.length U.exts ∧ U.exts.length ≤ d5) (g6 : Kd.C Kd.string w B6 U.priv.length U.priv ∧ U.priv.length ≤ d6) (q0 : T.lang = U.lang) (q1 : T.script = U.script) (q2 : T.region = U.region) (q3 : T.grand = U.grand) (q4 : T.ext = U.ext) (q5 : T.vars = U.vars) (q6 : T.priv = U.priv) (q7 : sameL T.exts U.exts = false) :
    Calls Try.prog 12 #[.agg #[.string T.lang, .slice A1 T.ext.length c1, .string T.script, .string T.region, .slice A4 T.vars.length c4, .slice A5 T.exts.length c5, .slice A6 T.priv.length c6, .string T.grand], .agg #[.string U.lang, .slice B1 U.ext.length d1, .string U.script, .string U.region, .slice B4 U.vars.length d4, .slice B5 U.exts.length d5, .slice B6 U.priv.length d6, .string U.grand]] w fun e w' => e = .returned (.bool false) ∧ Below w.heap.size w w' := by
  have H1 := Lib.hid h1
  have G1 := Lib.hid g1
  have H4 := Lib.hid h4
  have G4 := Lib.hid g4
  have H5 := Lib.hid h5
  have G5 := Lib.hid g5
  have H6 := Lib.hid h6
  have G6 := Lib.hid g6
  have Q0 := Lib.hid q0
  have Q1 := Lib.hid q1
  have Q2 := Lib.hid q2
  have Q3 := Lib.hid q3
  have Q4 := Lib.hid q4
  have Q5 := Lib.hid q5
  have Q6 := Lib.hid q6
  have Q7 := Lib.hid q7
  clear h1 h4 h5 h6 g1 g4 g5 g6 q0 q1 q2 q3 q4 q5 q6 q7
  have c0 : (T.lang.toList == U.lang.toList) = true := beq_iff_eq.2 (ba_same.2 Q0.out)
  have c1 : (T.script.toList == U.script.toList) = true := beq_iff_eq.2 (ba_same.2 Q1.out)
  have c2 : (T.region.toList == U.region.toList) = true := beq_iff_eq.2 (ba_same.2 Q2.out)
  have c3 : (T.grand.toList == U.grand.toList) = true := beq_iff_eq.2 (ba_same.2 Q3.out)
  go_enter Try.func12, Try.ntmps12
  go_wp2_with (first | (go_at_call 39; (with_reducible refine (EqualB H1.out G1.out true (decide_eq_true Q4.out) _ (((Below.refl w.heap.size w).alloc (Nat.le_refl _) _).alloc (by simp) _)).mono ?_); rintro e w4 ⟨rfl, hk4, hb4⟩; have K4 := Lib.hid hb4; have XA4 : w4.cell? ⟨w.heap.size, 4, none⟩ = some (.slice A4 T.vars.length c4) := hk4 _ _ ((two_blk w _ _ _ 4).1.trans rfl); have XB4 : w4.cell? ⟨w.heap.size + 1, 4, none⟩ = some (.slice B4 U.vars.length d4) := hk4 _ _ ((two_blk w _ _ _ 4).2.trans rfl); have XA6 : w4.cell? ⟨w.heap.size, 6, none⟩ = some (.slice A6 T.priv.length c6) := hk4 _ _ ((two_blk w _ _ _ 6).1.trans rfl); have XB6 : w4.cell? ⟨w.heap.size + 1, 6, none⟩ = some (.slice B6 U.priv.length d6) := hk4 _ _ ((two_blk w _ _ _ 6).2.trans rfl); have XA5 : w4.cell? ⟨w.heap.size, 5, none⟩ = some (.slice A5 T.exts.length c5) := hk4 _ _ ((two_blk w _ _ _ 5).1.trans rfl); have XB5 : w4.cell? ⟨w.heap.size + 1, 5, none⟩ = some (.slice B5 U.exts.length d5) := hk4 _ _ ((two_blk w _ _ _ 5).2.trans rfl); clear hb4 hk4) | (go_at_call 39; (with_reducible refine (EqualB H4.out G4.out true (decide_eq_true Q5.out) _ K4.out).mono ?_); rintro e w5 ⟨rfl, hk5, hb5⟩; have K5 := Lib.hid hb5; have XA6 := hk5 _ _ XA6; have XB6 := hk5 _ _ XB6; have XA5 := hk5 _ _ XA5; have XB5 := hk5 _ _ XB5; clear hb5 hk5) | (go_at_call 39; (with_reducible refine (EqualB H6.out G6.out true (decide_eq_true Q6.out) _ K5.out).mono ?_); rintro e w6 ⟨rfl, hk6, hb6⟩; have K6 := Lib.hid hb6; have XA5 := hk6 _ _ XA5; have XB5 := hk6 _ _ XB5; clear hb6 hk6) | (go_at_call 40; refine (EqualFuncB H5.out G5.out false Q7.out _ K6.out).mono ?_; rintro e w7 ⟨rfl, hb7⟩; have K7 := Lib.hid hb7; clear hb7))
  go_ret
  exact ⟨rfl, K7.out⟩
set_option maxRecDepth 100000 in
set_option maxHeartbeats 2000000 in
theorem same_leaf8 (T U : TG) (A1 : Option Addr) (c1 : Nat) (A4 : Option Addr) (c4 : Nat) (A5 : Option Addr) (c5 : Nat) (A6 : Option Addr) (c6 : Nat) (B1 : Option Addr) (d1 : Nat) (B4 : Option Addr) (d4 : Nat) (B5 : Option Addr) (d5 : Nat) (B6 : Option Addr) (d6 : Nat) (w : World) (h1 : Kd.C Kd.string w A1 T.ext.length T.ext ∧ T.ext.length ≤ c1) (h4 : Kd.C Kd.string w A4 T.vars.length T.vars ∧ T.vars.length ≤ c4) (h5 : Kd.C k44 w A5 T.exts.length T.exts ∧ T.exts.length ≤ c5) (h6 : Kd.C Kd.string w A6 T.priv.length T.priv ∧ T.priv.length ≤ c6) (g1 : Kd.C Kd.string w B1 U.ext.length U.ext ∧ U.ext.length ≤ d1) (g4 : Kd.C Kd.string w B4 U.vars.length U.vars ∧ U.vars.length ≤ d4) (g5 : Kd.C k44 w B5 U.exts.length U.exts ∧ U.exts.length ≤ d5) (g6 : Kd.C Kd.string w B6 U.priv.length U.priv ∧ U.priv.length ≤ d6) (q0 : T.lang = U.lang) (q1 : T.script = U.script) (q2 : T.region = U.region) (q3 : T.grand = U.grand) (q4 : T.ext = U.ext) (q5 : T.vars = U.vars) (q6 : T.priv = U.priv) (q7 : sameL T.exts U.exts = true) :
    Calls Try.prog 12 #[.agg #[.string T.lang, .slice A1 T.ext.length c1, .string T.script, .string T.region, .slice A4 T.vars.length c4, .slice A5 T.exts.length c5, .slice A6 T.priv.length c6, .string T.grand], .agg #[.string U.lang, .slice B1 U.ext.length d1, .string U.script, .string U.region, .slice B4 U.vars.length d4, .slice B5 U.exts.length d5, .slice B6 U.priv.length d6, .string U.grand]] w fun e w' => e = .returned (.bool true) ∧ Below w.heap.size w w' := by
  have H1 := Lib.hid h1
  have G1 := Lib.hid g1
  have H4 := Lib.hid h4
  have G4 := Lib.hid g4
  have H5 := Lib.hid h5
  have G5 := Lib.hid g5
  have H6 := Lib.hid h6
  have G6 := Lib.hid g6
  have Q0 := Lib.hid q0
  have Q1 := Lib.hid q1
  have Q2 := Lib.hid q2
  have Q3 := Lib.hid q3
  have Q4 := Lib.hid q4
  have Q5 := Lib.hid q5
  have Q6 := Lib.hid q6
  have Q7 := Lib.hid q7
  clear h1 h4 h5 h6 g1 g4 g5 g6 q0 q1 q2 q3 q4 q5 q6 q7
  have c0 : (T.lang.toList == U.lang.toList) = true := beq_iff_eq.2 (ba_same.2 Q0.out)
  have c1 : (T.script.toList == U.script.toList) = true := beq_iff_eq.2 (ba_same.2 Q1.out)
  have c2 : (T.region.toList == U.region.toList) = true := beq_iff_eq.2 (ba_same.2 Q2.out)
  have c3 : (T.grand.toList == U.grand.toList) = true := beq_iff_eq.2 (ba_same.2 Q3.out)
  go_enter Try.func12, Try.ntmps12
  go_wp2_with (first | (go_at_call 39; (with_reducible refine (EqualB H1.out G1.out true (decide_eq_true Q4.out) _ (((Below.refl w.heap.size w).alloc (Nat.le_refl _) _).alloc (by simp) _)).mono ?_); rintro e w4 ⟨rfl, hk4, hb4⟩; have K4 := Lib.hid hb4; have XA4 : w4.cell? ⟨w.heap.size, 4, none⟩ = some (.slice A4 T.vars.length c4) := hk4 _ _ ((two_blk w _ _ _ 4).1.trans rfl); have XB4 : w4.cell? ⟨w.heap.size + 1, 4, none⟩ = some (.slice B4 U.vars.length d4) := hk4 _ _ ((two_blk w _ _ _ 4).2.trans rfl); have XA6 : w4.cell? ⟨w.heap.size, 6, none⟩ = some (.slice A6 T.priv.length c6) := hk4 _ _ ((two_blk w _ _ _ 6).1.trans rfl); have XB6 : w4.cell? ⟨w.heap.size + 1, 6, none⟩ = some (.slice B6 U.priv.length d6) := hk4 _ _ ((two_blk w _ _ _ 6).2.trans rfl); have XA5 : w4.cell? ⟨w.heap.size, 5, none⟩ = some (.slice A5 T.exts.length c5) := hk4 _ _ ((two_blk w _ _ _ 5).1.trans rfl); have XB5 : w4.cell? ⟨w.heap.size + 1, 5, none⟩ = some (.slice B5 U.exts.length d5) := hk4 _ _ ((two_blk w _ _ _ 5).2.trans rfl); clear hb4 hk4) | (go_at_call 39; (with_reducible refine (EqualB H4.out G4.out true (decide_eq_true Q5.out) _ K4.out).mono ?_); rintro e w5 ⟨rfl, hk5, hb5⟩; have K5 := Lib.hid hb5; have XA6 := hk5 _ _ XA6; have XB6 := hk5 _ _ XB6; have XA5 := hk5 _ _ XA5; have XB5 := hk5 _ _ XB5; clear hb5 hk5) | (go_at_call 39; (with_reducible refine (EqualB H6.out G6.out true (decide_eq_true Q6.out) _ K5.out).mono ?_); rintro e w6 ⟨rfl, hk6, hb6⟩; have K6 := Lib.hid hb6; have XA5 := hk6 _ _ XA5; have XB5 := hk6 _ _ XB5; clear hb6 hk6) | (go_at_call 40; refine (EqualFuncB H5.out G5.out true Q7.out _ K6.out).mono ?_; rintro e w7 ⟨rfl, hb7⟩; have K7 := Lib.hid hb7; clear hb7))
  go_ret
  exact ⟨rfl, K7.out⟩
/-- tag.Same, of two tags. -/
theorem TagSame_calls (T U : TG) (v u : Value) (w : World) (hv : TagC w T v) (hu : TagC w U u) :
    Calls Try.prog 12 #[v, u] w fun e w' => e = .returned (.bool (sameT T U)) ∧ Below w.heap.size w w' := by
  obtain ⟨A1, c1, A4, c4, A5, c5, A6, c6, rfl, h1, h4, h5, h6⟩ := hv
  obtain ⟨B1, d1, B4, d4, B5, d5, B6, d6, rfl, g1, g4, g5, g6⟩ := hu
  by_cases q0 : T.lang = U.lang
  rotate_left
  · have hs : sameT T U = false := by unfold sameT; rw [decide_eq_false q0]; rfl
    rw [hs]
    exact same_leaf0 T U A1 c1 A4 c4 A5 c5 A6 c6 B1 d1 B4 d4 B5 d5 B6 d6 w h1 h4 h5 h6 g1 g4 g5 g6 q0
  by_cases q1 : T.script = U.script
  rotate_left
  · have hs : sameT T U = false := by unfold sameT; rw [decide_eq_true q0, decide_eq_false q1]; rfl
    rw [hs]
    exact same_leaf1 T U A1 c1 A4 c4 A5 c5 A6 c6 B1 d1 B4 d4 B5 d5 B6 d6 w h1 h4 h5 h6 g1 g4 g5 g6 q0 q1
  by_cases q2 : T.region = U.region
  rotate_left
  · have hs : sameT T U = false := by unfold sameT; rw [decide_eq_true q0, decide_eq_true q1, decide_eq_false q2]; rfl
    rw [hs]
    exact same_leaf2 T U A1 c1 A4 c4 A5 c5 A6 c6 B1 d1 B4 d4 B5 d5 B6 d6 w h1 h4 h5 h6 g1 g4 g5 g6 q0 q1 q2
  by_cases q3 : T.grand = U.grand
  rotate_left
  · have hs : sameT T U = false := by unfold sameT; rw [decide_eq_true q0, decide_eq_true q1, decide_eq_true q2, decide_eq_false q3]; rfl
    rw [hs]
    exact same_leaf3 T U A1 c1 A4 c4 A5 c5 A6 c6 B1 d1 B4 d4 B5 d5 B6 d6 w h1 h4 h5 h6 g1 g4 g5 g6 q0 q1 q2 q3
  by_cases q4 : T.ext = U.ext
  rotate_left
  · have hs : sameT T U = false := by unfold sameT; rw [decide_eq_true q0, decide_eq_true q1, decide_eq_true q2, decide_eq_true q3, decide_eq_false q4]; rfl
    rw [hs]
    exact same_leaf4 T U A1 c1 A4 c4 A5 c5 A6 c6 B1 d1 B4 d4 B5 d5 B6 d6 w h1 h4 h5 h6 g1 g4 g5 g6 q0 q1 q2 q3 q4
  by_cases q5 : T.vars = U.vars
  rotate_left
  · have hs : sameT T U = false := by unfold sameT; rw [decide_eq_true q0, decide_eq_true q1, decide_eq_true q2, decide_eq_true q3, decide_eq_true q4, decide_eq_false q5]; rfl
    rw [hs]
    exact same_leaf5 T U A1 c1 A4 c4 A5 c5 A6 c6 B1 d1 B4 d4 B5 d5 B6 d6 w h1 h4 h5 h6 g1 g4 g5 g6 q0 q1 q2 q3 q4 q5
  by_cases q6 : T.priv = U.priv
  rotate_left
  · have hs : sameT T U = false := by unfold sameT; rw [decide_eq_true q0, decide_eq_true q1, decide_eq_true q2, decide_eq_true q3, decide_eq_true q4, decide_eq_true q5, decide_eq_false q6]; rfl
    rw [hs]
    exact same_leaf6 T U A1 c1 A4 c4 A5 c5 A6 c6 B1 d1 B4 d4 B5 d5 B6 d6 w h1 h4 h5 h6 g1 g4 g5 g6 q0 q1 q2 q3 q4 q5 q6
  by_cases q7 : sameL T.exts U.exts = true
  rotate_left
  · have hs : sameT T U = false := by unfold sameT; rw [decide_eq_true q0, decide_eq_true q1, decide_eq_true q2, decide_eq_true q3, decide_eq_true q4, decide_eq_true q5, decide_eq_true q6, Bool.eq_false_iff.2 q7]; rfl
    rw [hs]
    exact same_leaf7 T U A1 c1 A4 c4 A5 c5 A6 c6 B1 d1 B4 d4 B5 d5 B6 d6 w h1 h4 h5 h6 g1 g4 g5 g6 q0 q1 q2 q3 q4 q5 q6 (Bool.eq_false_iff.2 q7)
  have hs : sameT T U = true := by unfold sameT; rw [decide_eq_true q0, decide_eq_true q1, decide_eq_true q2, decide_eq_true q3, decide_eq_true q4, decide_eq_true q5, decide_eq_true q6, q7]; rfl
  rw [hs]
  exact same_leaf8 T U A1 c1 A4 c4 A5 c5 A6 c6 B1 d1 B4 d4 B5 d5 B6 d6 w h1 h4 h5 h6 g1 g4 g5 g6 q0 q1 q2 q3 q4 q5 q6 q7
theorem tag_Same.calls (a0_0 : ByteArray) (A0_1 : Option Addr) (c0_1 : Nat) (l0_1 : List ByteArray) (a0_2 : ByteArray) (a0_3 : ByteArray) (A0_4 : Option Addr) (c0_4 : Nat) (l0_4 : List ByteArray) (A0_5 : Option Addr) (c0_5 : Nat) (l0_5 : List (S44)) (A0_6 : Option Addr) (c0_6 : Nat) (l0_6 : List ByteArray) (a0_7 : ByteArray) (a1_0 : ByteArray) (A1_1 : Option Addr) (c1_1 : Nat) (l1_1 : List ByteArray) (a1_2 : ByteArray) (a1_3 : ByteArray) (A1_4 : Option Addr) (c1_4 : Nat) (l1_4 : List ByteArray) (A1_5 : Option Addr) (c1_5 : Nat) (l1_5 : List (S44)) (A1_6 : Option Addr) (c1_6 : Nat) (l1_6 : List ByteArray) (a1_7 : ByteArray) (r : Bool) (w : World) (hr0_1 : Kd.C Kd.string w A0_1 l0_1.length l0_1) (hc0_1 : l0_1.length ≤ c0_1) (hr0_4 : Kd.C Kd.string w A0_4 l0_4.length l0_4) (hc0_4 : l0_4.length ≤ c0_4) (hr0_5 : Kd.C k44 w A0_5 l0_5.length l0_5) (hc0_5 : l0_5.length ≤ c0_5) (hr0_6 : Kd.C Kd.string w A0_6 l0_6.length l0_6) (hc0_6 : l0_6.length ≤ c0_6) (hr1_1 : Kd.C Kd.string w A1_1 l1_1.length l1_1) (hc1_1 : l1_1.length ≤ c1_1) (hr1_4 : Kd.C Kd.string w A1_4 l1_4.length l1_4) (hc1_4 : l1_4.length ≤ c1_4) (hr1_5 : Kd.C k44 w A1_5 l1_5.length l1_5) (hc1_5 : l1_5.length ≤ c1_5) (hr1_6 : Kd.C Kd.string w A1_6 l1_6.length l1_6) (hc1_6 : l1_6.length ≤ c1_6) (h : tag_Same.f a0_0 l0_1 a0_2 a0_3 l0_4 l0_5 l0_6 a0_7 a1_0 l1_1 a1_2 a1_3 l1_4 l1_5 l1_6 a1_7 = some r) :
    Calls Try.prog 12 #[.agg #[.string a0_0, .slice A0_1 l0_1.length c0_1, .string a0_2, .string a0_3, .slice A0_4 l0_4.length c0_4, .slice A0_5 l0_5.length c0_5, .slice A0_6 l0_6.length c0_6, .string a0_7], .agg #[.string a1_0, .slice A1_1 l1_1.length c1_1, .string a1_2, .string a1_3, .slice A1_4 l1_4.length c1_4, .slice A1_5 l1_5.length c1_5, .slice A1_6 l1_6.length c1_6, .string a1_7]] w fun e w' => e = .returned (.bool r) ∧ Below w.heap.size w w' := by
  obtain rfl := Option.some.inj h
  exact TagSame_calls _ _ _ _ w ⟨_, _, _, _, _, _, _, _, rfl, ⟨hr0_1, hc0_1⟩, ⟨hr0_4, hc0_4⟩, ⟨hr0_5, hc0_5⟩, ⟨hr0_6, hc0_6⟩⟩ ⟨_, _, _, _, _, _, _, _, rfl, ⟨hr1_1, hc1_1⟩, ⟨hr1_4, hc1_4⟩, ⟨hr1_5, hc1_5⟩, ⟨hr1_6, hc1_6⟩⟩
end Go.Proofs.Ytljadeeoaoiilaa.P
