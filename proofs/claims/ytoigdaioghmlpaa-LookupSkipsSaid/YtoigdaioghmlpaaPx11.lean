-- Written for this claim by the session's own run of the print, functions proved by hand put in.
import Derived.Test.YtoigdaioghmlpaaPx0
import Derived.Test.YtoigdaioghmlpaaPx2
import Derived.Test.YtoigdaioghmlpaaPx3
import Derived.Test.YtoigdaioghmlpaaPx4
import Derived.Test.YtoigdaioghmlpaaPx8
namespace Go.Proofs.Ytoigdaioghmlpaa.P
open Go.RowKit Go.Proofs.YtoigdaioghmlpaaW.PrintWords Go.Proofs.YtoigdaioghmlpaaW.PrintLast Go.Proofs.YtoigdaioghmlpaaW.PrintMore
attribute [local go_sem] max2_int min2_int max_two min_two max_three min_three max_four min_four   -- for this text's walks alone
set_option linter.unusedVariables false
set_option linter.unusedSimpArgs false

/-! ### isoglosslaw21_LookupSkips: function 8 (by hand) -/
section
set_option linter.unusedVariables false
theorem hinfoK : (Try.prog.info? 9).map (fun i => (i.zero, i.size, i.bytes)) = some (some (.string ⟨#[]⟩), 1, 16) := by kernel_rfl
variable {ops : Array Oper} {o : Oper} {a : Act} {Q : Exit → Act → World → Prop} {K : Act → World → Prop}
/-- append as one step of a region that draws its order: what is put on is read where it lies. -/
theorem step_put (W : World) (B : Nat) (hgd : o.guard = none) (s x : Operand)
    (ho : o.op = .call { callee := .builtin .append, args := #[s, x], argTypes := #[24, 24] })
    (v : Value) (xs ys : List ByteArray) (A : Option Addr) (m c : Nat) (hs : a.eval s = v) (hx : a.eval x = .slice A m c)
    (HO : W.ownsRow B 9 1 v xs.length (xs.map Value.string)) (HR : ReadsOf Value.string ByteArray.empty W A m ys) (hbase : B ≤ W.heap.size) (hl : (xs.length + m) * 16 ≤ 140737488355328)
    (h : ∀ v1 w1, w1.ownsRow B 9 1 v1 (xs ++ ys).length ((xs ++ ys).map Value.string) → W.grownBy w1 v.ownBlock → K (a.put o.dst v1) w1) :
    if Region.wanted o (yielded ops a.tmps) = true then Oper.wp Try.prog o a W K Q else K (a.put o.dst undef) W := by
  obtain ⟨i0, hi, hzz⟩ := Option.map_eq_some_iff.1 hinfoK
  simp only [Prod.mk.injEq] at hzz
  obtain ⟨hz0, hz1, hz2⟩ := hzz
  have hm : ys.length = m := HR.1
  have hw : Region.wanted o (yielded ops a.tmps) = true := by simp [Region.wanted, hgd]
  rw [if_pos hw]
  have hrun : ∃ v1 w1, (Builtin.append_ #[24, 24] o.type #[v, .slice A m c]).run Try.prog W = .ok v1 w1 ∧ w1.ownsRow B 9 1 v1 (xs ++ ys).length ((xs ++ ys).map Value.string) ∧ W.grownBy w1 v.ownBlock := by
    rcases A with _ | ad
    · have h0 : m = 0 := by
        rcases Nat.eq_zero_or_pos m with h0 | h0
        · exact h0
        · obtain ⟨ad, h, _⟩ := HR.2.2 h0
          cases h
      subst h0
      obtain rfl : ys = [] := List.eq_nil_of_length_eq_zero hm
      refine ⟨v, W, ?_, by simpa using HO, World.grownBy.refl W _⟩
      rcases HO.2 with ⟨rfl, hn⟩ | ⟨g, cap, cur, rfl, _, _, hnc, _⟩
      · simp [Builtin.append_, run_underlying Try.underlying24, sizeOf, typeInfo, hi, Builtin.lenOf, Builtin.firstCells]
      · simp [Builtin.append_, run_underlying Try.underlying24, sizeOf, typeInfo, hi, Builtin.lenOf, Builtin.firstCells, hnc, storeCells]
    · have hcells : ∀ j u, (ys.map Value.string)[j]? = some u → W.cell? (ad.add j) = some u := by
        intro j u hu
        have hj : j < ys.length := by
          rcases Nat.lt_or_ge j ys.length with h | h
          · exact h
          · simp [List.getElem?_eq_none h] at hu
        obtain ⟨ad', h', hc⟩ := HR.2.2 (by omega)
        injection h' with h'
        subst h'
        rw [List.getElem?_map, List.getElem?_eq_getElem hj] at hu
        rw [← Option.some.inj hu, hc j (by omega), List.getD_eq_getElem?_getD, List.getElem?_eq_getElem hj]; rfl
      obtain ⟨v1, w1, hr, h2, h3, _, h5⟩ := run_append_own_at (P := Try.prog) W B 24 o.type 9 i0 (.string ⟨#[]⟩) 1 16 Try.underlying24 hi hz0 hz1 hz2 rfl (by omega) v xs.length (xs.map Value.string) HO ad m c (ys.map Value.string) (by simp [hm]) hcells
        (by intro u hu; obtain ⟨q, _, rfl⟩ := List.mem_map.1 hu; rfl) (by simp only [maxLen]; omega) hl hbase
      exact ⟨v1, w1, hr, by simpa [hm] using h2, h3⟩
  obtain ⟨v1, w1, hr, hown, hg⟩ := hrun
  unfold Oper.wp execOp
  simp only [ho, resolve, invoke, builtin, Sem.run_bind, Sem.run_pure, Result.andThen_ok, List.map_toArray, List.map_cons, List.map_nil, hs, hx, hr]
  exact h v1 w1 hown hg
theorem blk_le {g n c k B : Nat} (h : B ≤ g) : (Value.slice (some ⟨g, 0, none⟩) n c).ownBlock = some k → B ≤ k := fun e => by simp [Value.ownBlock] at e; omega
theorem own_zero (W : World) (e : TypeId) (B : Nat) (hB : B ≤ W.heap.size) : (W.alloc (.cells #[] e)).ownsRow B e 1 (.slice (some ⟨W.heap.size, 0, none⟩) 0 0) 0 [] :=
  ⟨rfl, .inr ⟨W.heap.size, 0, #[], rfl, hB, World.alloc_heap_new W _, Nat.le_refl _, by decide, rfl, rfl⟩⟩
theorem reads_new (W : World) (e : TypeId) (s : ByteArray) : ReadsOf Value.string ByteArray.empty (W.alloc (.cells #[.string s] e)) (some ⟨W.heap.size, 0, none⟩) 1 [s] :=
  ⟨rfl, by decide, fun _ => ⟨_, rfl, fun j hj => by
    obtain rfl : j = 0 := by omega
    exact cell_one_new W _ _ 0 _ rfl⟩⟩
theorem reads_kept {W W1 : World} {g b n c : Nat} {s : ByteArray} (h : ReadsOf Value.string ByteArray.empty W (some ⟨g, 0, none⟩) 1 [s]) (hg : W.grownBy W1 (Value.slice (some ⟨b, 0, none⟩) n c).ownBlock) (hne : g ≠ b) : ReadsOf Value.string ByteArray.empty W1 (some ⟨g, 0, none⟩) 1 [s] :=
  ⟨rfl, by decide, fun _ => ⟨_, rfl, fun j hj => by
    obtain rfl : j = 0 := by omega
    obtain ⟨ad, e, hc⟩ := h.2.2 (by decide)
    cases e
    exact hg.cell (hc 0 (by decide)) (fun e => hne (by simpa [Addr.add, Value.ownBlock] using e))⟩⟩
abbrev o5 : ByteArray := ⟨#[111, 116, 104, 101, 114]⟩
def isoglosslaw21_LookupSkips.f (k : Nat) (l0 l1 : List ByteArray) (a2 : Int) : Option Bool :=
  (isoglosslaw21_awake.f k).bind fun up => (isoglossref20_Few.f k l0 5).bind fun r => (isoglossref20_Few.f k l1 8).bind fun t => (isoglosslaw21_rest.f a2 ((r.length + 1 : Nat) : Int)).bind fun n =>
    (lookup_Lookup.f k r t o5).bind fun want => (lookup_Lookup.f k ((r.take n.toNat ++ [(⟨#[42]⟩ : ByteArray)]) ++ r.drop n.toNat) t o5).bind fun x => (lookup_Lookup.f k ((r.take n.toNat ++ [(⟨#[49, 45, 95]⟩ : ByteArray)]) ++ r.drop n.toNat) t o5).bind fun y =>
      (lookup_Lookup.f k r [] o5).bind fun z => (lookup_Lookup.f k [] t o5).bind fun q => if up = true ∧ 0 ≤ n ∧ n ≤ (r.length : Int) ∧ r.length ≤ 1000 ∧ x.toList = want.toList ∧ y.toList = want.toList ∧ z = o5 ∧ q = o5 then some true else none
attribute [local go_sem] Oper.semAt_some
theorem row_of_R {e B : Nat} {ok : Nat → Prop} {W : World} {v : Value} {xs : List ByteArray} (h : Kd.R Kd.string e W B ok v xs) : W.ownsRow B e 1 v xs.length (xs.map Value.string) := Kd.own_of_R (enc := Value.string) (h1 := fun _ => rfl) h
set_option maxRecDepth 100000 in
set_option maxHeartbeats 8000000 in
theorem isoglosslaw21_LookupSkips.calls (k : Nat) (A0 : Option Addr) (c0 : Nat) (l0 : List ByteArray) (A1 : Option Addr) (c1 : Nat) (l1 : List ByteArray) (a2 : Int) (r0 : Bool) (w : World) (hr0 : Kd.C Kd.string w A0 l0.length l0) (hc0 : l0.length ≤ c0) (hr1 : Kd.C Kd.string w A1 l1.length l1) (hc1 : l1.length ≤ c1) (h : isoglosslaw21_LookupSkips.f k l0 l1 a2 = some r0) (hrt : r0 = true) :
    Calls Try.prog 8 #[.slice A0 l0.length c0, .slice A1 l1.length c1, .int .i64 a2] w fun e w' => e = .returned (.bool r0) ∧ Below w.heap.size w w' := by
  unfold isoglosslaw21_LookupSkips.f at h
  obtain ⟨up, e1, h⟩ := Option.bind_eq_some_iff.1 h
  obtain ⟨r, e2, h⟩ := Option.bind_eq_some_iff.1 h
  obtain ⟨t, e3, h⟩ := Option.bind_eq_some_iff.1 h
  obtain ⟨n, e4, h⟩ := Option.bind_eq_some_iff.1 h
  obtain ⟨want, e5, h⟩ := Option.bind_eq_some_iff.1 h
  obtain ⟨x, e6, h⟩ := Option.bind_eq_some_iff.1 h
  obtain ⟨y, e7, h⟩ := Option.bind_eq_some_iff.1 h
  obtain ⟨z, e8, h⟩ := Option.bind_eq_some_iff.1 h
  obtain ⟨q, e9, h⟩ := Option.bind_eq_some_iff.1 h
  obtain ⟨rfl, hn0, hn1, hrl, hx, hy, rfl, rfl⟩ : up = true ∧ 0 ≤ n ∧ n ≤ (r.length : Int) ∧ r.length ≤ 1000 ∧ x.toList = want.toList ∧ y.toList = want.toList ∧ z = o5 ∧ q = o5 := by
    by_cases c : up = true ∧ 0 ≤ n ∧ n ≤ (r.length : Int) ∧ r.length ≤ 1000 ∧ x.toList = want.toList ∧ y.toList = want.toList ∧ z = o5 ∧ q = o5
    · exact c
    · rw [if_neg c] at h; cases h
  obtain ⟨m, rfl⟩ : ∃ m : Nat, n = m := ⟨n.toNat, by omega⟩
  rw [Int.toNat_natCast] at e6 e7
  subst hrt
  have E1 := Lib.hid e1
  have E2 := Lib.hid e2
  have E3 := Lib.hid e3
  have E4 := Lib.hid e4
  have E5 := Lib.hid e5
  have E6 := Lib.hid e6
  have E7 := Lib.hid e7
  have E8 := Lib.hid e8
  have E9 := Lib.hid e9
  have HR0 := Lib.hid hr0
  have HR1 := Lib.hid hr1
  have hxb : (x.toList == want.toList) = true := beq_iff_eq.2 hx
  have hyb : (y.toList == want.toList) = true := beq_iff_eq.2 hy
  have hml : m ≤ r.length := by omega
  have hw1 : wrap64 ((r.length : Int) + 1) = ((r.length + 1 : Nat) : Int) := by unfold wrap64; omega
  have HB := Lib.hid (Below.refl w.heap.size w)
  clear e1 e2 e3 e4 e5 e6 e7 e8 e9 h hr0 hr1 hx hy
  go_enter Try.func8, Try.ntmps8
  go_wp2_with (first
    | (go_at_call 9; refine (isoglosslaw21_awake.calls k _ _ E1.out).mono ?_; rintro e w2 ⟨rfl, hb⟩; have HB2 := Lib.hid (HB.out.trans hb); clear hb HB)
    | (go_at_call 14; ((with_reducible refine (isoglossref20_Few.calls k _ _ l0 _ r _ (Kd.C_below HR0.out HB2.out) hc0 E2.out).mono ?_); rintro e w3 ⟨v3, rfl, ho3, hb⟩; obtain ⟨A3, c3, rfl⟩ := Kd.R_slice ho3; have HO3 := Lib.hid ho3; have HB3 := Lib.hid (below_then HB2.out HB2.out.size hb); clear hb ho3 HB2))
    | (go_at_call 14; ((with_reducible refine (isoglossref20_Few.calls k _ _ l1 _ t _ (Kd.C_below HR1.out HB3.out) hc1 E3.out).mono ?_); rintro e w4 ⟨v4, rfl, ho4, hb⟩; obtain ⟨A4, c4, rfl⟩ := Kd.R_slice ho4; have HO4 := Lib.hid ho4; have HO34 := Lib.hid (Kd.R_below HO3.out hb); have HB4 := Lib.hid (below_then HB3.out HB3.out.size hb); clear hb ho4 HB3 HO3))
    | (go_at_call 13; refine (isoglosslaw21_rest.calls _ _ _ _ E4.out).mono ?_; rintro e w5 ⟨rfl, ⟨nd, rfl⟩⟩))
  have HRr : ReadsOf Value.string ByteArray.empty (w4.drewN nd) A3 r.length r := (Kd.reads_of_C (enc := Value.string) (d := ByteArray.empty) (h1 := fun _ => rfl) (Kd.R_reads' HO34.out).2.2).drewN nd
  have HCr := Lib.hid (Kd.C_drewN (Kd.R_reads' HO34.out).2.2 nd)
  have HTc := Lib.hid (Kd.C_drewN (Kd.R_reads' HO4.out).2.2 nd)
  have hrc := (Kd.R_reads' HO34.out).2.1
  have htc := (Kd.R_reads' HO4.out).2.1
  have HB5 : Hid (Below w.heap.size w (w4.drewN nd)) := Lib.hid (pw_below_drewN HB4.out nd)
  generalize w4.drewN nd = W at HRr HCr HTc HB5 ⊢
  obtain ⟨i0, hi, hzz⟩ := Option.map_eq_some_iff.1 hinfoK
  simp only [Prod.mk.injEq] at hzz
  obtain ⟨hT, hT2, hT3⟩ := print_take_of (P := Try.prog) Value.string ByteArray.empty 24 9 .i64 Try.underlying24 hi hzz.2.1 A3 c3 r (m : Int) (by omega) (by omega) hrc
  obtain ⟨A9, hD, hD2, hD3⟩ := print_drop_of (P := Try.prog) Value.string ByteArray.empty 24 9 .i64 Try.underlying24 hi hzz.2.1 A3 c3 r (m : Int) (by omega) (by omega) hrc
  simp only [Int.toNat_natCast] at hT hT2 hT3 hD hD2 hD3
  have htl : (r.take m).length ≤ 1000 := by rw [List.length_take]; omega
  have hdl : (r.drop m).length ≤ 1000 := by rw [List.length_drop]; omega
  generalize r.take m = rt at *
  generalize r.drop m = rd at *
  have HTk := Lib.hid (hT2 W HRr)
  have HDk := Lib.hid (hD2 W HRr)
  clear hi hzz HO34 HB4 HO4 hT2 hD2 HRr
  have hR : ∀ {W1 : World}, Below W.heap.size W W1 → ReadsOf Value.string ByteArray.empty W1 A3 rt.length rt ∧ ReadsOf Value.string ByteArray.empty W1 A9 rd.length rd := fun h => ⟨HTk.out.below h, HDk.out.below h⟩
  have HRS : Hid (∀ W1 : World, Below W.heap.size W W1 → ReadsOf Value.string ByteArray.empty W1 A3 rt.length rt ∧ ReadsOf Value.string ByteArray.empty W1 A9 rd.length rd) := Lib.hid fun W1 h => hR h
  clear hR
  obtain ⟨QA, hqa⟩ : ∃ q, (rt ++ [(⟨#[42]⟩ : ByteArray)]) ++ rd = q := ⟨_, rfl⟩
  obtain ⟨QB, hqb⟩ : ∃ q, (rt ++ [(⟨#[49, 45, 95]⟩ : ByteArray)]) ++ rd = q := ⟨_, rfl⟩
  rw [hqa] at E6
  rw [hqb] at E7
  have HQA := Lib.hid hqa
  have HQB := Lib.hid hqb
  clear hqa hqb
  have HBWa : Hid (∀ W1 : World, Below W.heap.size W W1 → Below W.heap.size W W1) := Lib.hid fun _ h => h
  have HW0a := Lib.hid (Below.refl W.heap.size W)
  have oAa : Hid ((W.alloc (.cells #[] 9)).drew.ownsRow W.heap.size 9 1 (.slice (some ⟨W.heap.size, 0, none⟩) 0 0) ([] : List ByteArray).length (([] : List ByteArray).map Value.string)) := own_zero W 9 W.heap.size (Nat.le_refl _)
  have oBa : Hid (((W.alloc (.cells #[] 9)).alloc (.cells #[.string ⟨#[42]⟩] 9)).drew.ownsRow W.heap.size 9 1 (.slice (some ⟨W.heap.size, 0, none⟩) 0 0) ([] : List ByteArray).length (([] : List ByteArray).map Value.string)) := ((own_zero W 9 W.heap.size (Nat.le_refl _)).alloc (.cells #[.string ⟨#[42]⟩] 9))
  have oCa : Hid (((W.alloc (.cells #[.string ⟨#[42]⟩] 9)).alloc (.cells #[] 9)).drew.ownsRow W.heap.size 9 1 (.slice (some ⟨W.heap.size + 1, 0, none⟩) 0 0) ([] : List ByteArray).length (([] : List ByteArray).map Value.string)) := (by have := own_zero (W.alloc (.cells #[.string ⟨#[42]⟩] 9)) 9 W.heap.size (by simp); rw [World.size_alloc] at this; exact this)
  have bAa : Hid (Below W.heap.size W (W.alloc (.cells #[] 9)).drew) := Lib.hid (below_drew (HW0a.out.alloc (Nat.le_refl _) (.cells #[] 9)))
  have bBa : Hid (Below W.heap.size W ((W.alloc (.cells #[] 9)).alloc (.cells #[.string ⟨#[42]⟩] 9)).drew) := Lib.hid (below_drew ((HW0a.out.alloc (Nat.le_refl _) (.cells #[] 9)).alloc (by simp) (.cells #[.string ⟨#[42]⟩] 9)))
  have bCa : Hid (Below W.heap.size W ((W.alloc (.cells #[.string ⟨#[42]⟩] 9)).alloc (.cells #[] 9)).drew) := Lib.hid (below_drew ((HW0a.out.alloc (Nat.le_refl _) (.cells #[.string ⟨#[42]⟩] 9)).alloc (by simp) (.cells #[] 9)))
  have sBa : Hid (ReadsOf Value.string ByteArray.empty ((W.alloc (.cells #[] 9)).alloc (.cells #[.string ⟨#[42]⟩] 9)).drew (some ⟨W.heap.size + 1, 0, none⟩) 1 [⟨#[42]⟩]) := Lib.hid (by have := reads_new (W.alloc (.cells #[] 9)) 9 ⟨#[42]⟩; rw [World.size_alloc] at this; exact this)
  have sCa : Hid (ReadsOf Value.string ByteArray.empty ((W.alloc (.cells #[.string ⟨#[42]⟩] 9)).alloc (.cells #[] 9)).drew (some ⟨W.heap.size, 0, none⟩) 1 [⟨#[42]⟩]) := Lib.hid ((reads_new W 9 ⟨#[42]⟩).allocS _)
  have ltAa : W.heap.size ≤ (W.alloc (.cells #[] 9)).drew.heap.size := by simp
  have ltBa : W.heap.size ≤ ((W.alloc (.cells #[] 9)).alloc (.cells #[.string ⟨#[42]⟩] 9)).drew.heap.size := by simp; omega
  have ltCa : W.heap.size ≤ ((W.alloc (.cells #[.string ⟨#[42]⟩] 9)).alloc (.cells #[] 9)).drew.heap.size := by simp; omega
  have laa : (([] : List ByteArray).length + rt.length) * 16 ≤ 140737488355328 := by simp; omega
  have lba : (rt.length + 1) * 16 ≤ 140737488355328 := by omega
  have lca : ((rt ++ [(⟨#[42]⟩ : ByteArray)]).length + rd.length) * 16 ≤ 140737488355328 := by simp; omega
  have HLAa := Lib.hid (And.intro ltAa (And.intro ltBa ltCa))
  have HLLa := Lib.hid (And.intro laa (And.intro lba lca))
  clear ltAa ltBa ltCa laa lba lca
  go_region_law (first
    | (with_reducible change (if Region.wanted _ _ = true then Oper.wp Try.prog _ _ ((W.alloc (.cells #[] 9)).drew) _ _ else _); refine step_put (W.alloc (.cells #[] 9)).drew W.heap.size rfl (.tmp 24) (.tmp 27) rfl (.slice (some ⟨W.heap.size, 0, none⟩) 0 0) [] rt A3 _ c3 rfl rfl ?_ ?_ ?_ ?_ ?_; exact oAa.out; exact (HRS.out _ (HBWa.out _ bAa.out)).1; exact HLAa.out.1; exact HLLa.out.1; intro v1 w1 ho1 hg1; rw [List.nil_append] at ho1; have O1 := Lib.hid ho1; have B1 := Lib.hid (bAa.out.grown hg1 HLAa.out.1 (fun k => blk_le (Nat.le_refl _))); have L1 : Hid (W.heap.size ≤ (w1.alloc (.cells #[.string ⟨#[42]⟩] 9)).heap.size) := Lib.hid (by simp; have := B1.out.size; omega); clear ho1 hg1)
    | (with_reducible change (if Region.wanted _ _ = true then Oper.wp Try.prog _ _ (((W.alloc (.cells #[] 9)).alloc (.cells #[.string ⟨#[42]⟩] 9)).drew) _ _ else _); refine step_put ((W.alloc (.cells #[] 9)).alloc (.cells #[.string ⟨#[42]⟩] 9)).drew W.heap.size rfl (.tmp 24) (.tmp 27) rfl (.slice (some ⟨W.heap.size, 0, none⟩) 0 0) [] rt A3 _ c3 rfl rfl ?_ ?_ ?_ ?_ ?_; exact oBa.out; exact (HRS.out _ (HBWa.out _ bBa.out)).1; exact HLAa.out.2.1; exact HLLa.out.1; intro v1 w1 ho1 hg1; rw [List.nil_append] at ho1; have O1 := Lib.hid ho1; have S1 : Hid (ReadsOf Value.string ByteArray.empty w1 (some ⟨W.heap.size + 1, 0, none⟩) 1 [⟨#[42]⟩]) := Lib.hid (reads_kept sBa.out hg1 (by omega)); have B1 := Lib.hid (bBa.out.grown hg1 HLAa.out.2.1 (fun k => blk_le (Nat.le_refl _))); have L1 : Hid (W.heap.size ≤ w1.heap.size) := Lib.hid (by have := B1.out.size; omega); clear ho1 hg1)
    | (with_reducible change (if Region.wanted _ _ = true then Oper.wp Try.prog _ _ (((W.alloc (.cells #[.string ⟨#[42]⟩] 9)).alloc (.cells #[] 9)).drew) _ _ else _); refine step_put ((W.alloc (.cells #[.string ⟨#[42]⟩] 9)).alloc (.cells #[] 9)).drew W.heap.size rfl (.tmp 24) (.tmp 27) rfl (.slice (some ⟨W.heap.size + 1, 0, none⟩) 0 0) [] rt A3 _ c3 rfl rfl ?_ ?_ ?_ ?_ ?_; exact oCa.out; exact (HRS.out _ (HBWa.out _ bCa.out)).1; exact HLAa.out.2.2; exact HLLa.out.1; intro v1 w1 ho1 hg1; rw [List.nil_append] at ho1; have O1 := Lib.hid ho1; have S1 : Hid (ReadsOf Value.string ByteArray.empty w1 (some ⟨W.heap.size, 0, none⟩) 1 [⟨#[42]⟩]) := Lib.hid (reads_kept sCa.out hg1 (by omega)); have B1 := Lib.hid (bCa.out.grown hg1 HLAa.out.2.2 (fun k => blk_le (Nat.le_succ _))); have L1 : Hid (W.heap.size ≤ w1.heap.size) := Lib.hid (by have := B1.out.size; omega); clear ho1 hg1)
    | (with_reducible change (if Region.wanted _ _ = true then Oper.wp Try.prog _ _ (w1.alloc (.cells #[.string ⟨#[42]⟩] 9)) _ _ else _); refine step_put (w1.alloc (.cells #[.string ⟨#[42]⟩] 9)) W.heap.size rfl (.tmp 28) (.tmp 29) rfl v1 rt [⟨#[42]⟩] _ 1 1 rfl rfl ?_ ?_ ?_ ?_ ?_; exact (O1.out.alloc _); exact (reads_new w1 9 ⟨#[42]⟩); exact L1.out; exact HLLa.out.2.1; intro v2 w2 ho2 hg2; have O2 := Lib.hid ho2; have B2 := Lib.hid ((B1.out.alloc B1.out.size (.cells #[.string ⟨#[42]⟩] 9)).grown hg2 L1.out (own_base O1.out)); have L2 : Hid (W.heap.size ≤ w2.heap.size) := Lib.hid (by have := B2.out.size; omega); clear ho2 hg2)
    | (with_reducible change (if Region.wanted _ _ = true then Oper.wp Try.prog _ _ w1 _ _ else _); refine step_put w1 W.heap.size rfl (.tmp 28) (.tmp 29) rfl v1 rt [⟨#[42]⟩] _ 1 1 rfl rfl ?_ ?_ ?_ ?_ ?_; exact O1.out; exact S1.out; exact L1.out; exact HLLa.out.2.1; intro v2 w2 ho2 hg2; have O2 := Lib.hid ho2; have B2 := Lib.hid (B1.out.grown hg2 L1.out (own_base O1.out)); have L2 : Hid (W.heap.size ≤ w2.heap.size) := Lib.hid (by have := B2.out.size; omega); clear ho2 hg2)
    | (with_reducible change (if Region.wanted _ _ = true then Oper.wp Try.prog _ _ w2 _ _ else _); refine step_put w2 W.heap.size rfl (.tmp 30) (.tmp 33) rfl v2 (rt ++ [⟨#[42]⟩]) rd A9 rd.length (c3 - m) rfl rfl ?_ ?_ ?_ ?_ ?_; exact O2.out; exact (HRS.out _ (HBWa.out _ B2.out)).2; exact L2.out; exact HLLa.out.2.2; intro v3 w3 ho3 hg3; have O3a := Lib.hid ho3; have B3a := Lib.hid (B2.out.grown hg3 L2.out (own_base O2.out)); clear ho3 hg3))
  all_goals
    have RA : Kd.R Kd.string 9 w3 W.heap.size (fun _ => True) v3 QA := by rw [← HQA.out]; exact Kd.R_of_own (enc := Value.string) O3a.out (fun _ _ => trivial)
    obtain ⟨A5, c5, rfl⟩ := Kd.R_slice RA
    have HBWb : Hid (∀ W1 : World, Below w3.heap.size w3 W1 → Below W.heap.size W W1) := Lib.hid fun _ h => below_then B3a.out B3a.out.size h
    have CA := Lib.hid (Kd.R_reads' RA).2.2
    have ca := (Kd.R_reads' RA).2.1
    clear RA O3a
    try go_wp2
    have HW0b := Lib.hid (Below.refl w3.heap.size w3)
    have oAb : Hid ((w3.alloc (.cells #[] 9)).drew.ownsRow w3.heap.size 9 1 (.slice (some ⟨w3.heap.size, 0, none⟩) 0 0) ([] : List ByteArray).length (([] : List ByteArray).map Value.string)) := own_zero w3 9 w3.heap.size (Nat.le_refl _)
    have oBb : Hid (((w3.alloc (.cells #[] 9)).alloc (.cells #[.string ⟨#[49, 45, 95]⟩] 9)).drew.ownsRow w3.heap.size 9 1 (.slice (some ⟨w3.heap.size, 0, none⟩) 0 0) ([] : List ByteArray).length (([] : List ByteArray).map Value.string)) := ((own_zero w3 9 w3.heap.size (Nat.le_refl _)).alloc (.cells #[.string ⟨#[49, 45, 95]⟩] 9))
    have oCb : Hid (((w3.alloc (.cells #[.string ⟨#[49, 45, 95]⟩] 9)).alloc (.cells #[] 9)).drew.ownsRow w3.heap.size 9 1 (.slice (some ⟨w3.heap.size + 1, 0, none⟩) 0 0) ([] : List ByteArray).length (([] : List ByteArray).map Value.string)) := (by have := own_zero (w3.alloc (.cells #[.string ⟨#[49, 45, 95]⟩] 9)) 9 w3.heap.size (by simp); rw [World.size_alloc] at this; exact this)
    have bAb : Hid (Below w3.heap.size w3 (w3.alloc (.cells #[] 9)).drew) := Lib.hid (below_drew (HW0b.out.alloc (Nat.le_refl _) (.cells #[] 9)))
    have bBb : Hid (Below w3.heap.size w3 ((w3.alloc (.cells #[] 9)).alloc (.cells #[.string ⟨#[49, 45, 95]⟩] 9)).drew) := Lib.hid (below_drew ((HW0b.out.alloc (Nat.le_refl _) (.cells #[] 9)).alloc (by simp) (.cells #[.string ⟨#[49, 45, 95]⟩] 9)))
    have bCb : Hid (Below w3.heap.size w3 ((w3.alloc (.cells #[.string ⟨#[49, 45, 95]⟩] 9)).alloc (.cells #[] 9)).drew) := Lib.hid (below_drew ((HW0b.out.alloc (Nat.le_refl _) (.cells #[.string ⟨#[49, 45, 95]⟩] 9)).alloc (by simp) (.cells #[] 9)))
    have sBb : Hid (ReadsOf Value.string ByteArray.empty ((w3.alloc (.cells #[] 9)).alloc (.cells #[.string ⟨#[49, 45, 95]⟩] 9)).drew (some ⟨w3.heap.size + 1, 0, none⟩) 1 [⟨#[49, 45, 95]⟩]) := Lib.hid (by have := reads_new (w3.alloc (.cells #[] 9)) 9 ⟨#[49, 45, 95]⟩; rw [World.size_alloc] at this; exact this)
    have sCb : Hid (ReadsOf Value.string ByteArray.empty ((w3.alloc (.cells #[.string ⟨#[49, 45, 95]⟩] 9)).alloc (.cells #[] 9)).drew (some ⟨w3.heap.size, 0, none⟩) 1 [⟨#[49, 45, 95]⟩]) := Lib.hid ((reads_new w3 9 ⟨#[49, 45, 95]⟩).allocS _)
    have ltAb : w3.heap.size ≤ (w3.alloc (.cells #[] 9)).drew.heap.size := by simp
    have ltBb : w3.heap.size ≤ ((w3.alloc (.cells #[] 9)).alloc (.cells #[.string ⟨#[49, 45, 95]⟩] 9)).drew.heap.size := by simp; omega
    have ltCb : w3.heap.size ≤ ((w3.alloc (.cells #[.string ⟨#[49, 45, 95]⟩] 9)).alloc (.cells #[] 9)).drew.heap.size := by simp; omega
    have lab : (([] : List ByteArray).length + rt.length) * 16 ≤ 140737488355328 := by simp; omega
    have lbb : (rt.length + 1) * 16 ≤ 140737488355328 := by omega
    have lcb : ((rt ++ [(⟨#[49, 45, 95]⟩ : ByteArray)]).length + rd.length) * 16 ≤ 140737488355328 := by simp; omega
    have HLAb := Lib.hid (And.intro ltAb (And.intro ltBb ltCb))
    have HLLb := Lib.hid (And.intro lab (And.intro lbb lcb))
    clear ltAb ltBb ltCb lab lbb lcb
    go_region_law (first
      | (with_reducible change (if Region.wanted _ _ = true then Oper.wp Try.prog _ _ ((w3.alloc (.cells #[] 9)).drew) _ _ else _); refine step_put (w3.alloc (.cells #[] 9)).drew w3.heap.size rfl (.tmp 35) (.tmp 38) rfl (.slice (some ⟨w3.heap.size, 0, none⟩) 0 0) [] rt A3 _ c3 rfl rfl ?_ ?_ ?_ ?_ ?_; exact oAb.out; exact (HRS.out _ (HBWb.out _ bAb.out)).1; exact HLAb.out.1; exact HLLb.out.1; intro x1 y1 ho1 hg1; rw [List.nil_append] at ho1; have O1 := Lib.hid ho1; have B1 := Lib.hid (bAb.out.grown hg1 HLAb.out.1 (fun k => blk_le (Nat.le_refl _))); have L1 : Hid (w3.heap.size ≤ (y1.alloc (.cells #[.string ⟨#[49, 45, 95]⟩] 9)).heap.size) := Lib.hid (by simp; have := B1.out.size; omega); clear ho1 hg1)
      | (with_reducible change (if Region.wanted _ _ = true then Oper.wp Try.prog _ _ (((w3.alloc (.cells #[] 9)).alloc (.cells #[.string ⟨#[49, 45, 95]⟩] 9)).drew) _ _ else _); refine step_put ((w3.alloc (.cells #[] 9)).alloc (.cells #[.string ⟨#[49, 45, 95]⟩] 9)).drew w3.heap.size rfl (.tmp 35) (.tmp 38) rfl (.slice (some ⟨w3.heap.size, 0, none⟩) 0 0) [] rt A3 _ c3 rfl rfl ?_ ?_ ?_ ?_ ?_; exact oBb.out; exact (HRS.out _ (HBWb.out _ bBb.out)).1; exact HLAb.out.2.1; exact HLLb.out.1; intro x1 y1 ho1 hg1; rw [List.nil_append] at ho1; have O1 := Lib.hid ho1; have S1 : Hid (ReadsOf Value.string ByteArray.empty y1 (some ⟨w3.heap.size + 1, 0, none⟩) 1 [⟨#[49, 45, 95]⟩]) := Lib.hid (reads_kept sBb.out hg1 (by omega)); have B1 := Lib.hid (bBb.out.grown hg1 HLAb.out.2.1 (fun k => blk_le (Nat.le_refl _))); have L1 : Hid (w3.heap.size ≤ y1.heap.size) := Lib.hid (by have := B1.out.size; omega); clear ho1 hg1)
      | (with_reducible change (if Region.wanted _ _ = true then Oper.wp Try.prog _ _ (((w3.alloc (.cells #[.string ⟨#[49, 45, 95]⟩] 9)).alloc (.cells #[] 9)).drew) _ _ else _); refine step_put ((w3.alloc (.cells #[.string ⟨#[49, 45, 95]⟩] 9)).alloc (.cells #[] 9)).drew w3.heap.size rfl (.tmp 35) (.tmp 38) rfl (.slice (some ⟨w3.heap.size + 1, 0, none⟩) 0 0) [] rt A3 _ c3 rfl rfl ?_ ?_ ?_ ?_ ?_; exact oCb.out; exact (HRS.out _ (HBWb.out _ bCb.out)).1; exact HLAb.out.2.2; exact HLLb.out.1; intro x1 y1 ho1 hg1; rw [List.nil_append] at ho1; have O1 := Lib.hid ho1; have S1 : Hid (ReadsOf Value.string ByteArray.empty y1 (some ⟨w3.heap.size, 0, none⟩) 1 [⟨#[49, 45, 95]⟩]) := Lib.hid (reads_kept sCb.out hg1 (by omega)); have B1 := Lib.hid (bCb.out.grown hg1 HLAb.out.2.2 (fun k => blk_le (Nat.le_succ _))); have L1 : Hid (w3.heap.size ≤ y1.heap.size) := Lib.hid (by have := B1.out.size; omega); clear ho1 hg1)
      | (with_reducible change (if Region.wanted _ _ = true then Oper.wp Try.prog _ _ (y1.alloc (.cells #[.string ⟨#[49, 45, 95]⟩] 9)) _ _ else _); refine step_put (y1.alloc (.cells #[.string ⟨#[49, 45, 95]⟩] 9)) w3.heap.size rfl (.tmp 39) (.tmp 40) rfl x1 rt [⟨#[49, 45, 95]⟩] _ 1 1 rfl rfl ?_ ?_ ?_ ?_ ?_; exact (O1.out.alloc _); exact (reads_new y1 9 ⟨#[49, 45, 95]⟩); exact L1.out; exact HLLb.out.2.1; intro x2 y2 ho2 hg2; have O2 := Lib.hid ho2; have B2 := Lib.hid ((B1.out.alloc B1.out.size (.cells #[.string ⟨#[49, 45, 95]⟩] 9)).grown hg2 L1.out (own_base O1.out)); have L2 : Hid (w3.heap.size ≤ y2.heap.size) := Lib.hid (by have := B2.out.size; omega); clear ho2 hg2)
      | (with_reducible change (if Region.wanted _ _ = true then Oper.wp Try.prog _ _ y1 _ _ else _); refine step_put y1 w3.heap.size rfl (.tmp 39) (.tmp 40) rfl x1 rt [⟨#[49, 45, 95]⟩] _ 1 1 rfl rfl ?_ ?_ ?_ ?_ ?_; exact O1.out; exact S1.out; exact L1.out; exact HLLb.out.2.1; intro x2 y2 ho2 hg2; have O2 := Lib.hid ho2; have B2 := Lib.hid (B1.out.grown hg2 L1.out (own_base O1.out)); have L2 : Hid (w3.heap.size ≤ y2.heap.size) := Lib.hid (by have := B2.out.size; omega); clear ho2 hg2)
      | (with_reducible change (if Region.wanted _ _ = true then Oper.wp Try.prog _ _ y2 _ _ else _); refine step_put y2 w3.heap.size rfl (.tmp 41) (.tmp 44) rfl x2 (rt ++ [⟨#[49, 45, 95]⟩]) rd A9 rd.length (c3 - m) rfl rfl ?_ ?_ ?_ ?_ ?_; exact O2.out; exact (HRS.out _ (HBWb.out _ B2.out)).2; exact L2.out; exact HLLb.out.2.2; intro x3 y3 ho3 hg3; have O3b := Lib.hid ho3; have B3b := Lib.hid (B2.out.grown hg3 L2.out (own_base O2.out)); clear ho3 hg3))
  
    all_goals
      have RB : Kd.R Kd.string 9 y3 w3.heap.size (fun _ => True) x3 QB := by rw [← HQB.out]; exact Kd.R_of_own (enc := Value.string) O3b.out (fun _ _ => trivial)
      obtain ⟨A6, c6, rfl⟩ := Kd.R_slice RB
      have CB := Lib.hid (Kd.R_reads' RB).2.2
      have cb := (Kd.R_reads' RB).2.1
      have CA2 := Lib.hid (Kd.C_below CA.out B3b.out)
      have CR2 := Lib.hid (Kd.C_below HCr.out (HBWb.out _ B3b.out))
      have CT2 := Lib.hid (Kd.C_below HTc.out (HBWb.out _ B3b.out))
      have HB6 := Lib.hid (below_then HB5.out HB5.out.size (HBWb.out _ B3b.out))
      have HZ0 := Lib.hid (Below.refl y3.heap.size y3)
      have C8 : Hid (∀ W1 : World, Kd.C Kd.string W1 A3 r.length r → Calls Try.prog 17 #[.slice A3 r.length c3, .slice none 0 0, .string o5] W1 fun e w' => e = .returned (.string o5) ∧ Below W1.heap.size W1 w') := Lib.hid fun W1 hr => lookup_Lookup.calls k _ _ r none 0 [] o5 o5 W1 hr hrc (Kd.C_nil _ _) (Nat.le_refl _) E8.out
      have C9 : Hid (∀ W1 : World, Kd.C Kd.string W1 A4 t.length t → Calls Try.prog 17 #[.slice none 0 0, .slice A4 t.length c4, .string o5] W1 fun e w' => e = .returned (.string o5) ∧ Below W1.heap.size W1 w') := Lib.hid fun W1 hr => lookup_Lookup.calls k none 0 [] _ _ t o5 o5 W1 (Kd.C_nil _ _) (Nat.le_refl _) hr htc E9.out
      clear RB O3b
      go_wp2_with (first
        | (go_at_call 17; ((with_reducible refine (lookup_Lookup.calls k _ _ r _ _ t o5 want _ CR2.out hrc CT2.out htc E5.out).mono ?_); rintro e z1 ⟨rfl, hb⟩; have HZ1 := Lib.hid (below_then HZ0.out (Nat.le_refl _) hb); clear hb HZ0))
        | (go_at_call 17; ((with_reducible refine (lookup_Lookup.calls k _ _ QA _ _ t o5 x _ (Kd.C_below CA2.out HZ1.out) ca (Kd.C_below CT2.out HZ1.out) htc E6.out).mono ?_); rintro e z2 ⟨rfl, hb⟩; have HZ2 := Lib.hid (below_then HZ1.out HZ1.out.size hb); clear hb HZ1))
        | (go_at_call 17; ((with_reducible refine (lookup_Lookup.calls k _ _ QB _ _ t o5 y _ (Kd.C_below CB.out HZ2.out) cb (Kd.C_below CT2.out HZ2.out) htc E7.out).mono ?_); rintro e z3 ⟨rfl, hb⟩; have HZ3 := Lib.hid (below_then HZ2.out HZ2.out.size hb); clear hb HZ2))
        | (go_at_call 17; ((with_reducible refine (C8.out _ (Kd.C_below CR2.out HZ3.out)).mono ?_); rintro e z4 ⟨rfl, hb⟩; have HZ4 := Lib.hid (below_then HZ3.out HZ3.out.size hb); clear hb HZ3))
        | (go_at_call 17; ((with_reducible refine (C9.out _ (Kd.C_below CT2.out HZ4.out)).mono ?_); rintro e z5 ⟨rfl, hb⟩; have HZ5 := Lib.hid (below_then HZ4.out HZ4.out.size hb); clear hb HZ4)))
      go_ret
      exact ⟨rfl, below_then HB6.out HB6.out.size HZ5.out⟩
end

end Go.Proofs.Ytoigdaioghmlpaa.P
