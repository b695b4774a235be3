/- The law SplitTells, walked by hand. Condition: the text has at most 2^47 bytes, and what is asked of the document's answer. -/
import Derived.Deep.RegionHeld3
import Derived.Test.YtmkjifljciajbaaDoorHandM
import Derived.Test.YtmkjifljciajbaaDoorHandErr
import Derived.Test.YtmkjifljciajbaaDoorHandWhats
import Derived.Test.YtmkjifljciajbaaDoorPx1
import Derived.Test.YtmkjifljciajbaaDoorPx3
import Derived.Test.YtmkjifljciajbaaDoorPx7
namespace Go.Proofs.YtmkjifljciajbaaDoor.P
open Go.RowKit Go.Proofs.YtmkjifljciajbaaDoorW.PrintWords Go.Proofs.YtmkjifljciajbaaDoorW.PrintLast Go.Proofs.YtmkjifljciajbaaDoorW.PrintMore
section
open Go.Shelf Go.Proofs.YtmkjifljciajbaaDoor
set_option linter.unusedVariables false
attribute [local go_sem] Oper.semAt_some
def placeR : Option Nat → Int
  | none => -1
  | some a => (a : Int)
def isoglosslaw04_SplitTells.f (k : Nat) (a0 : ByteArray) : Option Bool :=
  (isoglosslaw04_awake.f k).bind fun up => (isoglosslaw04_short.f a0).bind fun s => (isoglossref04_Each.f k s).bind fun W => (split_Split.f s).bind fun L => (isoglossref04_Split.f k s).bind fun L2 => (isoglossref04_Same.f k L L2).bind fun sm =>
    (split_CheckAt.f k s).bind fun r => (isoglossref04_Check.f k s).bind fun g => (split_Trim.f k s).bind fun t1 => (isoglossref04_Trim.f k s).bind fun t2 =>
    if up = true ∧ s.size ≤ 140737488355328 ∧ W.map (fun x => (x.f0, x.f1)) = (eachB s).map (fun x => ((x.1 : Int), x.2)) ∧ (eachB s).length ≤ 1000 ∧ sm = true ∧ g = (kindOf r, placeR r) ∧ t1 = t2 then some true else none
theorem cso {W : World} {p : Addr} {v u : Value} {B : Nat} (h : W.cell? p = some v) (hne : p.block ≠ B) : (W.setCell ⟨B, 0, none⟩ u).cell? p = some v := by
  rw [World.cell?_setCell_other _ _ _ _ (fun e => hne (congrArg Addr.block e).symm)]; exact h
/-- What fault.Kind and fault.Place tell of what Check answers. -/
theorem Kind_err {n₀ : Nat} (v : Value) (r : Option Nat) (W : World) (hg : W.cell? ⟨0, 0, none⟩ = some errGV) (h : CheckErr W n₀ v r) :
    Calls Tryd.prog 21 #[v] W fun e w' => e = .returned (.int .i64 (kindOf r)) ∧ Below W.heap.size W w' := by
  cases r with
  | none =>
    obtain rfl := h
    exact (Kind_nil W).mono fun e w' ⟨he, hw⟩ => ⟨he, by rw [hw]; exact Below.refl _ _⟩
  | some a =>
    obtain ⟨B, _, hE⟩ := h
    cases hE with
    | fault hf hi => cases hi with | errno n => exact Kind_hit B 10 W hg hf.inner
theorem Place_err {n₀ : Nat} (v : Value) (r : Option Nat) (W : World) (h : CheckErr W n₀ v r) :
    Calls Tryd.prog 22 #[v] W fun e w' => e = .returned (.int .i64 (placeR r)) ∧ Below W.heap.size W w' := by
  obtain ⟨L, k, hE, hp⟩ := h.err
  refine (Place_calls v L k W hE).mono fun e w' ⟨he, hb⟩ => ⟨?_, hb⟩
  rw [he, hp]
  cases r <;> rfl
/-- The pieces of the document's answer, as they lie in a row. -/
def PcRow (W : World) (A : Option Addr) (L : List (Nat × ByteArray)) : Prop :=
  0 < L.length → ∃ ad, A = some ad ∧ ∀ j x, L[j]? = some x → W.cell? (ad.add (j * 2)) = some (.int .i64 (x.1 : Int)) ∧ W.cell? ⟨(ad.add (j * 2)).block, (ad.add (j * 2)).off + 1, none⟩ = some (.string x.2)
theorem PcRow.keep {W W' : World} {A : Option Addr} {L : List (Nat × ByteArray)} (h : PcRow W A L) (hk : ∀ p v, W.cell? p = some v → W'.cell? p = some v) : PcRow W' A L := fun hn => by
  obtain ⟨ad, rfl, hc⟩ := h hn
  exact ⟨ad, rfl, fun j x hx => ⟨hk _ _ (hc j x hx).1, hk _ _ (hc j x hx).2⟩⟩
theorem PcRow.below {W W' : World} {A : Option Addr} {L : List (Nat × ByteArray)} (h : PcRow W A L) (hb : Below W.heap.size W W') : PcRow W' A L :=
  h.keep fun p v hv => (hb.cell (p := p) (World.block_lt_of_cell? W p hv)).trans hv
theorem PcRow.set {W : World} {A : Option Addr} {L : List (Nat × ByteArray)} (h : PcRow W A L) {B : Nat} {v : Value} (hA : ∀ ad, A = some ad → 0 < L.length → ad.block ≠ B) : PcRow (W.setCell ⟨B, 0, none⟩ v) A L := fun hn => by
  obtain ⟨ad, rfl, hc⟩ := h hn
  refine ⟨ad, rfl, fun j x hx => ⟨?_, ?_⟩⟩
  · rw [World.cell?_setCell_other _ _ _ _ (fun e => hA ad rfl hn (by have := congrArg Addr.block e; simp only [add_block] at this; exact this.symm))]
    exact (hc j x hx).1
  · rw [World.cell?_setCell_other _ _ _ _ (fun e => hA ad rfl hn (by have := congrArg Addr.block e; simp only [add_block] at this; exact this.symm))]
    exact (hc j x hx).2
theorem pcRow_of {W : World} {A : Option Addr} {X : List S37} {L : List (Nat × ByteArray)} (h : Kd.C k37 W A X.length X) (e : X.map (fun x => (x.f0, x.f1)) = L.map (fun x => ((x.1 : Int), x.2))) : PcRow W A L := fun hn => by
  have hl : X.length = L.length := by have := congrArg List.length e; rwa [List.length_map, List.length_map] at this
  obtain ⟨ad, hA, _⟩ := at_T37 h 0 (by omega) (by omega)
  refine ⟨ad, hA, fun j x hx => ?_⟩
  have hj : j < L.length := by
    rcases Nat.lt_or_ge j L.length with h | h
    · exact h
    · rw [List.getElem?_eq_none h] at hx; cases hx
  obtain ⟨ad', hA', h1, h2⟩ := at_T37 h (j : Int) (by omega) (by omega)
  rw [hA] at hA'; cases hA'
  have hr : rd_T37 X (j : Int) = X[j]'(by omega) := by
    unfold rd_T37
    rw [Int.toNat_natCast, List.getD_eq_getElem?_getD, List.getElem?_eq_getElem (by omega)]; rfl
  have hx2 : ((X[j]'(by omega)).f0, (X[j]'(by omega)).f1) = ((x.1 : Int), x.2) := by
    have := congrArg (·[j]?) e
    simp only [List.getElem?_map, hx, Option.map_some] at this
    rw [List.getElem?_eq_getElem (by omega)] at this
    exact Option.some.inj this
  rw [Int.toNat_natCast, hr, (Prod.mk.inj hx2).1] at h1
  rw [Int.toNat_natCast, hr, (Prod.mk.inj hx2).2] at h2
  exact ⟨h1, h2⟩
/-- What holds between two pieces of the round of all. -/
structure SInv (w W : World) (Bw : Nat) (A : Option Addr) (c n : Nat) (L : List (Nat × ByteArray)) (s : ByteArray) (i : Nat) : Prop where
  res : Boxed W w.heap.size 4 (.bool false)
  want : Boxed W Bw 34 (.slice A n c)
  row : PcRow W A L
  str : Boxed W (Bw + 1) 9 (.string s)
  cnt : Boxed W (Bw + 1 + 1) 3 (.int .i64 (i : Int))
  bel : Below w.heap.size w W
theorem ownFrom_S {β : Type} {w : World} {B Bw : Nat} {A : Option Addr} {c n : Nat} {L : List (Nat × ByteArray)} {s : ByteArray} (h : w.heap.size ≤ B) (f : β → Nat) : OwnFrom B (fun (b : β) W => SInv w W Bw A c n L s (f b)) :=
  fun b W W' row hs hg hr => by
    have hk : ∀ {B : Nat} {t : TypeId} {v : Value}, Boxed W B t v → Boxed W' B t v := fun hb => (Own.from (boxed_own (β := Unit) _ _ (fun _ => _)) B) () W W' row hb hg hr
    exact ⟨hk hs.res, hk hs.want, hs.row.keep fun p v hv => cell_kept hv hg (fun r e => (hr r e).2), hk hs.str, hk hs.cnt, (ownFrom_below (β := Unit) (Nat.le_refl _) h) () W W' row hs.bel hg hr⟩
theorem SInv.count {w W : World} {Bw : Nat} {A : Option Addr} {c n : Nat} {L : List (Nat × ByteArray)} {s : ByteArray} {i : Nat} (h : SInv w W Bw A c n L s i) (h1 : w.heap.size < Bw) (hA : ∀ ad, A = some ad → 0 < L.length → ad.block < Bw) (j : Nat) : SInv w (W.setCell ⟨Bw + 1 + 1, 0, none⟩ (.int .i64 (j : Int))) Bw A c n L s j :=
  ⟨h.res.other (by omega) _, h.want.other (by omega) _, h.row.set (fun ad e hn => by have := hA ad e hn; omega), h.str.other (by omega) _, h.cnt.set _, h.bel.setCell (p := ⟨Bw + 1 + 1, 0, none⟩) (by simp; omega) _⟩
theorem eqF (lb : Array Value) (W : World) : (binOp .eql 28 (.func (.func 26) #[] lb) .nilFunc).run Tryd.prog W = .ok (.bool false) W := by
  kernel_rfl
theorem pre_stepP {L pre : List (Nat × ByteArray)} {x y : Nat × ByteArray} (h : pre <+: L) (hy : L[pre.length]? = some y) : pre ++ [x] <+: L ↔ x = y := by
  obtain ⟨t, rfl⟩ := h
  rw [List.getElem?_append_right (Nat.le_refl _), Nat.sub_self] at hy
  rw [List.prefix_append_right_inj]
  cases t with
  | nil => cases hy
  | cons z t =>
    obtain rfl := Option.some.inj hy
    exact ⟨fun ⟨u, hu⟩ => by cases hu; rfl, fun e => ⟨t, by rw [e]; rfl⟩⟩
/-- What holds behind the loop. -/
structure U (w W : World) (Bw : Nat) (A : Option Addr) (c n i : Nat) (ds : List Deferred) : Prop where
  hg : W.cell? ⟨0, 0, none⟩ = some errGV
  res : Boxed W w.heap.size 4 (.bool false)
  want : Boxed W Bw 34 (.slice A n c)
  cnt : Boxed W (Bw + 1 + 1) 3 (.int .i64 (i : Int))
  bel : Below w.heap.size w W
  marks : Marks (w.heap.size + 1) W ds
theorem U.below {w W W' : World} {Bw : Nat} {A : Option Addr} {c n i : Nat} {ds : List Deferred} (h : U w W Bw A c n i ds) (hb : Below W.heap.size W W') : U w W' Bw A c n i ds :=
  ⟨(hb.cell (p := ⟨0, 0, none⟩) (World.block_lt_of_cell? W _ h.hg)).trans h.hg, boxed_below2 h.res hb, boxed_below2 h.want hb, boxed_below2 h.cnt hb, below_then h.bel h.bel.size hb, h.marks.below hb⟩
/-- Nothing but an end in order. -/
def NoStop (Q : Exit → Act → World → Prop) : Exit → Act → World → Prop
  | .normal, a, w => Q .normal a w
  | _, _, _ => False
theorem NoStop.le {Q : Exit → Act → World → Prop} : ∀ (e : Exit) (a : Act) (w : World), NoStop Q e a w → Q e a w
  | .normal, _, _, h => h
  | .exit _, _, _, h => h.elim
  | .goto _, _, _, h => h.elim
  | .ret, _, _, h => h.elim
  | .panic _, _, _, h => h.elim
  | .outgrown, _, _, h => h.elim
/-- The document's answer, where it lies. -/
structure GC (W : World) (G : Nat) (e a : Int) : Prop where
  g0 : W.cell? ⟨G, 0, none⟩ = some (.int .i64 e)
  g1 : W.cell? ⟨G, 1, none⟩ = some (.int .i64 a)
theorem GC.below {W W' : World} {G : Nat} {e a : Int} (h : GC W G e a) (hb : Below W.heap.size W W') : GC W' G e a :=
  ⟨(hb.cell (p := ⟨G, 0, none⟩) (World.block_lt_of_cell? W _ h.g0)).trans h.g0, (hb.cell (p := ⟨G, 1, none⟩) (World.block_lt_of_cell? W _ h.g1)).trans h.g1⟩
theorem GC.new (W : World) (e a : Int) : GC (W.alloc (.cells #[.int .i64 e, .int .i64 a] 43)) W.heap.size e a :=
  ⟨by rw [World.cell?_alloc_new]; rfl, by rw [World.cell?_alloc_new]; rfl⟩
set_option maxRecDepth 100000 in
set_option maxHeartbeats 100000000 in
theorem isoglosslaw04_SplitTells.calls (k : Nat) (a0 : ByteArray) (r0 : Bool) (w : World) (hg : w.cell? ⟨0, 0, none⟩ = some errGV) (h : isoglosslaw04_SplitTells.f k a0 = some r0) (hrt : r0 = true) :
    Calls Tryd.prog 6 #[.string a0] w fun e w' => e = .returned (.bool r0) ∧ Below w.heap.size w w' := by
  unfold isoglosslaw04_SplitTells.f at h
  obtain ⟨up, e1, h1⟩ := Option.bind_eq_some_iff.1 h
  obtain ⟨s, e2, h2⟩ := Option.bind_eq_some_iff.1 h1
  obtain ⟨W, e3, h3⟩ := Option.bind_eq_some_iff.1 h2
  obtain ⟨L, e4, h4⟩ := Option.bind_eq_some_iff.1 h3
  obtain ⟨L2, e5, h5⟩ := Option.bind_eq_some_iff.1 h4
  obtain ⟨sm, e6, h6⟩ := Option.bind_eq_some_iff.1 h5
  obtain ⟨r, e7, h7⟩ := Option.bind_eq_some_iff.1 h6
  obtain ⟨g, e8, h8⟩ := Option.bind_eq_some_iff.1 h7
  obtain ⟨t1, e9, h9⟩ := Option.bind_eq_some_iff.1 h8
  obtain ⟨t2, e10, h10⟩ := Option.bind_eq_some_iff.1 h9
  clear h h1 h2 h3 h4 h5 h6 h7 h8 h9
  obtain ⟨rfl, hss, hWe, hWl, rfl, rfl, rfl⟩ : up = true ∧ s.size ≤ 140737488355328 ∧ W.map (fun x => (x.f0, x.f1)) = (eachB s).map (fun x => ((x.1 : Int), x.2)) ∧ (eachB s).length ≤ 1000 ∧ sm = true ∧ g = (kindOf r, placeR r) ∧ t1 = t2 := by
    by_cases c : up = true ∧ s.size ≤ 140737488355328 ∧ W.map (fun x => (x.f0, x.f1)) = (eachB s).map (fun x => ((x.1 : Int), x.2)) ∧ (eachB s).length ≤ 1000 ∧ sm = true ∧ g = (kindOf r, placeR r) ∧ t1 = t2
    · exact c
    · rw [if_neg c] at h10; cases h10
  subst hrt
  have hnl : W.length = (eachB s).length := by have := congrArg List.length hWe; rwa [List.length_map, List.length_map] at this
  have E1 := Lib.hid e1
  have E2 := Lib.hid e2
  have E3 := Lib.hid e3
  have E4 := Lib.hid e4
  have E5 := Lib.hid e5
  have E6 := Lib.hid e6
  have E7 := Lib.hid e7
  have E8 := Lib.hid e8
  have E9 := Lib.hid e9
  have E10 := Lib.hid e10
  have HW := Lib.hid hWe
  have HG := Lib.hid hg
  have HNL := Lib.hid hnl
  clear e1 e2 e3 e4 e5 e6 e7 e8 e9 e10 h10 hWe hg hnl
  refine (callsIn_wide (n := 3)).1 ?_
  refine callsIn_of_wp_marks Tryd.func6 rfl trivial ?_ rfl
  simp only [Tryd.ntmps6, List.size_toArray, List.length_cons, List.length_nil, Nat.reduceAdd, Nat.reduceSub, Array.replicate_succ, Array.replicate_zero, List.push_toArray, List.append_toArray, List.nil_append, List.cons_append]
  have b0 := Boxed.new w 4 (.bool false)
  have HB0 := Lib.hid ((Below.refl w.heap.size w).alloc (Nat.le_refl _) (.cells #[.bool false] 4))
  have B0 := Lib.hid b0
  have heq := eqF
  clear b0
  gi_wp2_with (first
    | (refine ⟨trivial, ?_⟩; gi_at_call 9; refine (callsIn_wide.2 (isoglosslaw04_awake.calls k _ _ (pw_cell_below HB0.out HG.out) E1.out)).mono ?_; rintro e w2 ⟨rfl, hb⟩; have B2 := Lib.hid (boxed_below2 B0.out hb); have HB2 := Lib.hid (below_then HB0.out HB0.out.size hb); clear hb HB0 B0)
    | (refine ⟨trivial, ?_⟩; gi_at_call 10; refine (callsIn_wide.2 (isoglosslaw04_short.calls _ _ _ E2.out)).mono ?_; rintro e w5 ⟨rfl, ⟨nd, rfl⟩⟩; have B3 := Lib.hid (boxed_below2 B2.out (pw_below_drewN (Below.refl _ _) nd)); have HB3 := Lib.hid (pw_below_drewN HB2.out nd); clear B2 HB2)
    | (refine ⟨trivial, ?_⟩; gi_at_call 16; refine (callsIn_wide.2 (isoglossref04_Each.calls k _ _ _ E3.out)).mono ?_; rintro e w4 ⟨v4, rfl, ho4, hb⟩; obtain ⟨A4, c4, rfl⟩ := Kd.R_slice ho4; have HO4 := Lib.hid ho4; have B4 := Lib.hid (boxed_below2 B3.out hb); have HB4 := Lib.hid (below_then HB3.out HB3.out.size hb); clear hb ho4 B3 HB3)
    | (refine ⟨trivial, ?_⟩; gi_at_call 13; refine (each_in Fence.wide (3 - 1) trivial rfl _ _).mono ?_; rintro e w6 ⟨rfl, rfl⟩))
  have hrow : PcRow w4 A4 (eachB s) := pcRow_of (Kd.R_reads' HO4.out).2.2 HW.out
  have hAb : ∀ ad, A4 = some ad → 0 < (eachB s).length → ad.block < w4.heap.size := fun ad e hn => by
    obtain ⟨ad', e', hc⟩ := hrow hn
    rw [e] at e'; cases e'
    have := World.block_lt_of_cell? w4 _ (hc 0 _ (List.getElem?_eq_getElem hn)).1
    rwa [add_block] at this
  have b1 := Boxed.new w4 34 (.slice A4 W.length c4)
  have b2 := Boxed.new (w4.alloc (.cells #[.slice A4 W.length c4] 34)) 9 (.string s)
  have b3 := Boxed.new ((w4.alloc (.cells #[.slice A4 W.length c4] 34)).alloc (.cells #[.string s] 9)) 3 (.int .i64 0)
  simp only [World.size_alloc] at b2 b3
  have hwz : w.heap.size < w4.heap.size := B4.out.lt
  have HS : Hid (SInv w (((w4.alloc (.cells #[.slice A4 W.length c4] 34)).alloc (.cells #[.string s] 9)).alloc (.cells #[.int .i64 0] 3)) w4.heap.size A4 c4 W.length (eachB s) s 0) :=
    Lib.hid ⟨((B4.out.alloc _).alloc _).alloc _, (b1.alloc _).alloc _, hrow.below (((Below.refl w4.heap.size w4).alloc (Nat.le_refl _) _).alloc (by simp) _ |>.alloc (by simp; omega) _), b2.alloc _, b3, ((HB4.out.alloc HB4.out.size _).alloc (by simp; omega) _).alloc (by simp; omega) _⟩
  have bN := b2.alloc (.cells #[.int .i64 0] 3)
  have hsz : (((w4.alloc (.cells #[.slice A4 W.length c4] 34)).alloc (.cells #[.string s] 9)).alloc (.cells #[.int .i64 0] 3)).heap.size = w4.heap.size + 3 := by simp
  clear hrow b1 b2 b3 HO4 B4 HB4 heq
  refine wpIn_rangeFunc_ownG (F := Fence.wide) rfl (by decide) (gf := 26) (lb := #[.pointer (some ⟨w4.heap.size + 1, 0, none⟩)]) rfl trivial (enters_of Tryd.func26 (by kernel_rfl) rfl)
    (each_stops (3 - 1) (by decide) (w4.heap.size + 1) s hss _ (by simp) bN.cell) KeepsCell.trans keepsCell_b (Below.refl _ _) (fun _ => rfl)
    (fun (pre : List (Pc s)) V => SInv w V w4.heap.size A4 c4 W.length (eachB s) s pre.length ∧ Hid (pre.map (·.1) <+: eachB s))
    (fun c (pre : List (Pc s)) V => Hid (¬ pre.map (·.1) <+: eachB s))
    (OwnFrom.and (ownFrom_S (by omega) (fun (pre : List (Pc s)) => pre.length)) (ownFrom_pure _ _))
    (fun c => ownFrom_pure _ _)
    ⟨HS.out, List.nil_prefix⟩
    (fun (x : Pc s) => { tmps := #[.string s, undef, .pointer (some ⟨w.heap.size, 0, none⟩), .bool true, .pointer (some ⟨w4.heap.size, 0, none⟩), .func (.func 26) #[] #[.pointer (some ⟨w4.heap.size + 1, 0, none⟩)], .pointer (some ⟨w4.heap.size + 1 + 1, 0, none⟩), .int .i64 (x.1.1 : Int), .string x.1.2, undef, undef, undef, undef, .bool true, .string a0, .string s, .string s, .slice A4 W.length c4, .string s, .func (.func 26) #[] #[.pointer (some ⟨w4.heap.size + 1, 0, none⟩)], .func (.func 26) #[] #[.pointer (some ⟨w4.heap.size + 1, 0, none⟩)], .bool false, .func (.func 26) #[] #[.pointer (some ⟨w4.heap.size + 1, 0, none⟩)], .int .i64 (x.1.1 : Int), .string x.1.2, undef, undef, undef, undef, undef, undef, undef, undef, undef, undef, undef, undef, undef, undef, undef, undef, undef, undef, undef, undef, undef, undef, undef, undef, undef, undef, undef, undef, undef, undef, undef, undef, undef, undef, undef, undef, undef, undef, undef, undef, undef, undef, undef, undef, undef, undef, undef, undef, undef, undef, undef, undef, undef, undef, undef, undef, undef, undef, undef, undef, undef, undef, undef, undef, undef, undef, undef, undef, undef, undef, undef, undef, undef, undef, undef, undef, undef, undef], defers := [] }) ?assign ?body ?done ?stop
  case assign =>
    intro l x V K hK
    gi_wp2
    exact hK
  case body =>
    rintro l pre x V ⟨hS, hpre⟩ hlen
    have hY0 : ∃ y, Hid ((eachB s)[pre.length]? = some y) := ⟨_, List.getElem?_eq_getElem hlen⟩
    obtain ⟨y, HY⟩ := hY0
    obtain ⟨ad, hA, hx0⟩ := hS.row (by omega)
    obtain ⟨hx1, hx2⟩ := hx0 pre.length y HY.out
    clear hx0
    have hcr := hS.res.cell
    have hcrf := hS.res.frozen
    have hcw := hS.want.cell
    have hcc := hS.cnt.cell
    have hcf := hS.cnt.frozen
    have hnl := HNL.out
    have hlt : decide (W.length ≤ pre.length) = false := decide_eq_false (by omega)
    have hlt2 : decide ((W.length : Int) ≤ (pre.length : Int)) = false := decide_eq_false (by omega)
    have hl2 : decide ((pre.length : Int) < (W.length : Int)) = true := decide_eq_true (by omega)
    have hw1 : wrap64 ((pre.length : Int) + 1) = ((pre.length + 1 : Nat) : Int) := by unfold wrap64; omega
    have hpl : pre.length < 1000 := by omega
    have hplw : pre.length < W.length := by omega
    have HSV := Lib.hid hS
    clear hS hnl
    subst hA
    by_cases hxy : x.1 = y
    · have HXY := Lib.hid hxy
      have c0 : ((x.1.1 : Int) == (y.1 : Int)) = true := by rw [hxy]; simp
      have c1 : ((x.1.1 : Int) != (y.1 : Int)) = false := by rw [hxy]; simp
      have d0 : (x.1.2.toList == y.2.toList) = true := by rw [hxy]; simp
      have d1 : (x.1.2.toList != y.2.toList) = false := by rw [bne, d0]; rfl
      have d2 : (!(x.1.2.toList == y.2.toList)) = false := by rw [d0]; rfl
      clear hxy
      gi_wp2
      have hs := HSV.out.count hwz (fun ad e hn => hAb ad e hn) (pre.length + 1)
      rw [show (((pre.length + 1 : Nat)) : Int) = (pre.length : Int) + 1 from by omega] at hs
      refine ⟨(KeepsOthers.setCell _ _ _).from _, ?_, ?_, ?_⟩
      · exact fun v0 h0 => by rw [← h0, HSV.out.str.cell]; exact hs.str.cell
      · rw [List.length_append, List.length_singleton]; exact hs
      · show (pre ++ [x]).map (·.1) <+: eachB s
        rw [List.map_append, List.map_cons, List.map_nil]
        exact (pre_stepP hpre.out (by rw [List.length_map]; exact HY.out)).2 HXY.out
    · have HXY := Lib.hid hxy
      clear hxy
      have HN : Hid (¬ (pre ++ [x]).map (·.1) <+: eachB s) := Lib.hid fun hp => HXY.out (by
        rw [List.map_append, List.map_cons, List.map_nil] at hp
        exact (pre_stepP hpre.out (by rw [List.length_map]; exact HY.out)).1 hp)
      by_cases hp1 : x.1.1 = y.1
      · have c0 : ((x.1.1 : Int) == (y.1 : Int)) = true := by rw [hp1]; simp
        have c1 : ((x.1.1 : Int) != (y.1 : Int)) = false := by rw [hp1]; simp
        have hne : ¬ x.1.2.toList = y.2.toList := fun e => HXY.out (Prod.ext hp1 (ba_inj e))
        have d0 : (x.1.2.toList == y.2.toList) = false := beq_eq_false_iff_ne.2 hne
        have d1 : (x.1.2.toList != y.2.toList) = true := by rw [bne, d0]; rfl
        have d2 : (!(x.1.2.toList == y.2.toList)) = true := by rw [d0]; rfl
        clear hp1 hne
        gi_wp2
        exact ⟨(KeepsOthers.setCell _ _ _).from _, HN⟩
      · have c0 : ((x.1.1 : Int) == (y.1 : Int)) = false := beq_eq_false_iff_ne.2 (by omega)
        have c1 : ((x.1.1 : Int) != (y.1 : Int)) = true := by rw [bne, c0]; rfl
        clear hp1
        gi_wp2
        all_goals exact ⟨(KeepsOthers.setCell _ _ _).from _, HN⟩
  case done =>
    rintro D ys V hD hys ⟨hS, hpre⟩ hK
    have hyl : ys.length = (eachB s).length := by have := congrArg List.length hys; rwa [List.length_map] at this
    rw [hyl] at hS
    have hDl : w4.heap.size + 3 ≤ D := by simp at hD; omega
    have hVD : D < V.heap.size := (Array.getElem?_eq_some_iff.1 hK).1
    have hM : Marks (w.heap.size + 1) V [{ target := .collected D, args := #[] }] := Marks.cons (ds := []) trivial (by omega) hK (fun d hd => by cases hd)
    have HU0 : Hid (U w V w4.heap.size A4 c4 W.length (eachB s).length [{ target := .collected D, args := #[] }]) := Lib.hid ⟨pw_cell_below hS.bel HG.out, hS.res, hS.want, hS.cnt, hS.bel, hM⟩
    have hmix : Tryd.prog.follows .mixedOrders = true := by kernel_rfl
    clear hS hys hpre hyl hK hD hM HS bN hsz
    rcases r with _ | a
    · skip
      have E8' : Hid (isoglossref04_Check.f k s = some ((0 : Int), (-1 : Int))) := E8
      gi_wp2_with (first
        | (refine ⟨trivial, ?_⟩; gi_at_call 11; refine (callsIn_wide.2 (split_Split.calls _ _ _ E4.out)).mono ?_; rintro e V1 ⟨v1, rfl, ho, hb⟩; obtain ⟨A5, c5, rfl⟩ := Kd.R_slice ho; have HC5 := Lib.hid (Kd.R_reads' ho).2; have HU1 := Lib.hid (HU0.out.below hb); clear hb ho HU0)
        | (refine ⟨trivial, ?_⟩; gi_at_call 17; refine (callsIn_wide.2 (isoglossref04_Split.calls k _ _ _ E5.out)).mono ?_; rintro e V2 ⟨v2, rfl, ho, hb⟩; obtain ⟨A6, c6, rfl⟩ := Kd.R_slice ho; have HC6 := Lib.hid (Kd.R_reads' ho).2; have HC5b := Lib.hid (Kd.C_below HC5.out.2 hb); have HU2 := Lib.hid (HU1.out.below hb); clear hb ho HU1)
        | (refine ⟨trivial, ?_⟩; gi_at_call 15; refine (callsIn_wide.2 (isoglossref04_Same.calls k _ _ L _ _ L2 true _ HC5b.out HC5.out.1 HC6.out.2 HC6.out.1 E6.out)).mono ?_; rintro e w' ⟨rfl, ⟨nd2, rfl⟩⟩; have HU3 := Lib.hid (HU2.out.below (pw_below_drewN (Below.refl _ _) nd2)); clear HU2 HC5 HC6 HC5b)
        | (refine ⟨trivial, ?_⟩; gi_at_call 18; refine (callsIn_wide.2 (split_CheckAt.calls k _ _ _ E7.out)).mono ?_; rintro e V4 ⟨v, rfl, hv, hb⟩; obtain rfl : v = .nilIface := hv; have HU4 := Lib.hid (HU3.out.below hb); clear hb HU3)
        | (refine ⟨trivial, ?_⟩; gi_at_call 19; refine (callsIn_wide.2 (isoglossref04_Check.calls k _ _ _ _ E8'.out)).mono ?_; rintro e V5 ⟨rfl, hb⟩; have HU5 := Lib.hid (HU4.out.below hb); clear hb HU4))
      have hal := (Below.refl V5.heap.size V5).alloc (Nat.le_refl _) (.cells #[.int .i64 0, .int .i64 (-1)] 43)
      have hV5 : w.heap.size < V5.heap.size := HU5.out.res.lt
      have HU6 := Lib.hid (HU5.out.below hal)
      have HGC6 := Lib.hid (GC.new V5 0 (-1))
      clear hal HU5
      generalize V5.alloc (.cells #[.int .i64 0, .int .i64 (-1)] 43) = V6 at HU6 HGC6 ⊢
      have HU6d := Lib.hid (HU6.out.below (below_drew (Below.refl V6.heap.size V6)))
      have HGC6d := Lib.hid (HGC6.out.below (below_drew (Below.refl V6.heap.size V6)))
      have hcn6 := HU6d.out.cnt.cell
      have hcw6 := HU6d.out.want.cell
      have hga6 := HGC6d.out.g0
      have hgb6 := HGC6d.out.g1
      have hnl := HNL.out
      have hnl2 : (((eachB s).length : Int) == (W.length : Int)) = true := beq_iff_eq.2 (by omega)
      have HNL2 := Lib.hid hnl
      clear hnl
      refine Code.wpIn_mono NoStop.le ?_
      refine wpIn_wide.2 ?_
      clear hcn6 hcw6 hga6 hgb6
      go_region_held3 (fun W' => W'.cell? ⟨w4.heap.size + 1 + 1, 0, none⟩ = some (.int .i64 ((eachB s).length : Int)) ∧ W'.cell? ⟨w4.heap.size, 0, none⟩ = some (.slice A4 W.length c4) ∧ W'.cell? ⟨V5.heap.size, 0, none⟩ = some (.int .i64 (0 : Int)) ∧ W'.cell? ⟨V5.heap.size, 1, none⟩ = some (.int .i64 (-1 : Int))) (first | exact ⟨cso HU10.out.cnt.cell (by dsimp only; omega), cso HU10.out.want.cell (by dsimp only; omega), cso HGC10.out.g0 (by dsimp only; omega), cso HGC10.out.g1 (by dsimp only; omega)⟩ | exact ⟨HU10.out.cnt.cell, HU10.out.want.cell, HGC10.out.g0, HGC10.out.g1⟩ | exact ⟨HU9.out.cnt.cell, HU9.out.want.cell, HGC9.out.g0, HGC9.out.g1⟩ | exact ⟨HU8.out.cnt.cell, HU8.out.want.cell, HGC8.out.g0, HGC8.out.g1⟩ | exact ⟨HU7.out.cnt.cell, HU7.out.want.cell, HGC7.out.g0, HGC7.out.g1⟩ | exact ⟨HU6d.out.cnt.cell, HU6d.out.want.cell, HGC6d.out.g0, HGC6d.out.g1⟩ | exact ⟨HU6.out.cnt.cell, HU6.out.want.cell, HGC6.out.g0, HGC6.out.g1⟩) (first
        | (go_at_call 21; refine (Kind_err _ (none : Option Nat) _ HU6d.out.hg (show CheckErr V6.drew w.heap.size .nilIface none from rfl)).mono ?_; rintro e V7 ⟨rfl, hb⟩; have HU7 := Lib.hid (HU6d.out.below hb); have HGC7 := Lib.hid (HGC6d.out.below hb); have hga7 := HGC7.out.g0; have hgb7 := HGC7.out.g1; clear hb; (try simp only [kindOf]))
        | (go_at_call 22; refine (Place_err _ (none : Option Nat) _ (show CheckErr V7 w.heap.size .nilIface none from rfl)).mono ?_; rintro e V8 ⟨rfl, hb⟩; have HU8 := Lib.hid (HU7.out.below hb); have HGC8 := Lib.hid (HGC7.out.below hb); clear hb; (try simp only [placeR]))
        | (go_at_call 12; refine (split_Trim.calls k _ _ _ E9.out).mono ?_; rintro e V9' ⟨rfl, ⟨nd3, rfl⟩⟩; have HU9 := Lib.hid (HU8.out.below (pw_below_drewN (Below.refl _ _) nd3)); have HGC9 := Lib.hid (HGC8.out.below (pw_below_drewN (Below.refl _ _) nd3)); generalize V8.drewN nd3 = V9 at HU9 HGC9 ⊢)
        | (go_at_call 23; refine (isoglossref04_Trim.calls k _ _ _ E10.out).mono ?_; rintro e V10 ⟨rfl, hb⟩; have HU10 := Lib.hid (HU9.out.below hb); have HGC10 := Lib.hid (HGC9.out.below hb); have hcr10 := HU10.out.res.cell; have hfr10 := HU10.out.res.frozen; clear hb))
      all_goals
        simp only [NoStop]
        try gi_wp2
        have hbx : Boxed (V10.setCell ⟨w.heap.size, 0, none⟩ (.bool true)) w.heap.size 4 (.bool true) := HU10.out.res.set _
        refine leaves_marks (n₀ := w.heap.size + 1) _ _ (HU10.out.marks.keeps (KeepsOthers.setCell _ _ _)) fun W' hb => ?_
        have hbx' : Boxed W' w.heap.size 4 (.bool true) := (hb.block _ (by omega)).trans hbx
        have hcell := hbx'.cell
        exact ⟨.bool true, by simp [results, Tryd.f6, go_sem, hcell], rfl, (HU10.out.bel.setCell (p := ⟨w.heap.size, 0, none⟩) (by simp) _).trans (hb.mono (by omega))⟩
    · skip
      have E8' : Hid (isoglossref04_Check.f k s = some ((10 : Int), (a : Int))) := E8
      gi_wp2_with (first
        | (refine ⟨trivial, ?_⟩; gi_at_call 11; refine (callsIn_wide.2 (split_Split.calls _ _ _ E4.out)).mono ?_; rintro e V1 ⟨v1, rfl, ho, hb⟩; obtain ⟨A5, c5, rfl⟩ := Kd.R_slice ho; have HC5 := Lib.hid (Kd.R_reads' ho).2; have HU1 := Lib.hid (HU0.out.below hb); clear hb ho HU0)
        | (refine ⟨trivial, ?_⟩; gi_at_call 17; refine (callsIn_wide.2 (isoglossref04_Split.calls k _ _ _ E5.out)).mono ?_; rintro e V2 ⟨v2, rfl, ho, hb⟩; obtain ⟨A6, c6, rfl⟩ := Kd.R_slice ho; have HC6 := Lib.hid (Kd.R_reads' ho).2; have HC5b := Lib.hid (Kd.C_below HC5.out.2 hb); have HU2 := Lib.hid (HU1.out.below hb); clear hb ho HU1)
        | (refine ⟨trivial, ?_⟩; gi_at_call 15; refine (callsIn_wide.2 (isoglossref04_Same.calls k _ _ L _ _ L2 true _ HC5b.out HC5.out.1 HC6.out.2 HC6.out.1 E6.out)).mono ?_; rintro e w' ⟨rfl, ⟨nd2, rfl⟩⟩; have HU3 := Lib.hid (HU2.out.below (pw_below_drewN (Below.refl _ _) nd2)); clear HU2 HC5 HC6 HC5b)
        | (refine ⟨trivial, ?_⟩; gi_at_call 18; refine (callsIn_wide.2 (split_CheckAt.calls k _ _ _ E7.out)).mono ?_; rintro e V4 ⟨v, rfl, ⟨B, hB, hE⟩, hb⟩; obtain ⟨rfl, _⟩ := hE.one; have HE4 := Lib.hid hE; have HB4 := Lib.hid hB; have HU4 := Lib.hid (HU3.out.below hb); clear hb HU3 hE hB)
        | (refine ⟨trivial, ?_⟩; gi_at_call 19; refine (callsIn_wide.2 (isoglossref04_Check.calls k _ _ _ _ E8'.out)).mono ?_; rintro e V5 ⟨rfl, hb⟩; have HU5 := Lib.hid (HU4.out.below hb); have HE5 := Lib.hid (HE4.out.keeps hb); clear hb HU4 HE4)
        | (refine ⟨trivial, ?_⟩; gi_at_call 20; refine (callsIn_wide.2 (Whats_calls _ _ _ _ (HE5.out.keeps ((Below.refl V5.heap.size V5).alloc (Nat.le_refl _) (.cells #[.int .i64 10, .int .i64 (a : Int)] 43))) (by simp))).mono ?_; rintro e V6 ⟨v6, rfl, ho6, hb⟩; have ho7 : Kd.R Kd.string 9 V6 (V5.alloc (.cells #[.int .i64 10, .int .i64 (a : Int)] 43)).heap.size (fun _ => True) v6 [⟨#[115, 117, 98, 116, 97, 103]⟩] := ho6; obtain ⟨A7, c7, rfl⟩ := Kd.R_slice ho7; obtain ⟨ad7, rfl, hx7⟩ := Kd.at_string (Kd.R_reads' ho7).2.2 0 (by decide) (by decide); have hx8 : V6.cell? ad7 = some (.string ⟨#[115, 117, 98, 116, 97, 103]⟩) := hx7; have hV5 : w.heap.size < V5.heap.size := HU5.out.res.lt; have hal := (Below.refl V5.heap.size V5).alloc (Nat.le_refl _) (.cells #[.int .i64 10, .int .i64 (a : Int)] 43); have HU6 := Lib.hid ((HU5.out.below hal).below hb); have HE6 := Lib.hid ((HE5.out.keeps hal).keeps hb); have HGC6 := Lib.hid ((GC.new V5 10 (a : Int)).below hb); have hc65 : V6.cell? ⟨V5.heap.size, 0, none⟩ = some (.int .i64 10) := HGC6.out.g0; clear hb hal ho6 ho7 hx7 HU5 HE5))
      have HU6d := Lib.hid (HU6.out.below (below_drew (Below.refl V6.heap.size V6)))
      have HGC6d := Lib.hid (HGC6.out.below (below_drew (Below.refl V6.heap.size V6)))
      have hcn6 := HU6d.out.cnt.cell
      have hcw6 := HU6d.out.want.cell
      have hga6 := HGC6d.out.g0
      have hgb6 := HGC6d.out.g1
      have hnl := HNL.out
      have hnl2 : (((eachB s).length : Int) == (W.length : Int)) = true := beq_iff_eq.2 (by omega)
      have HNL2 := Lib.hid hnl
      clear hnl
      refine Code.wpIn_mono NoStop.le ?_
      refine wpIn_wide.2 ?_
      clear hcn6 hcw6 hga6 hgb6
      go_region_held3 (fun W' => W'.cell? ⟨w4.heap.size + 1 + 1, 0, none⟩ = some (.int .i64 ((eachB s).length : Int)) ∧ W'.cell? ⟨w4.heap.size, 0, none⟩ = some (.slice A4 W.length c4) ∧ W'.cell? ⟨V5.heap.size, 0, none⟩ = some (.int .i64 (10 : Int)) ∧ W'.cell? ⟨V5.heap.size, 1, none⟩ = some (.int .i64 (a : Int))) (first | exact ⟨cso HU10.out.cnt.cell (by dsimp only; omega), cso HU10.out.want.cell (by dsimp only; omega), cso HGC10.out.g0 (by dsimp only; omega), cso HGC10.out.g1 (by dsimp only; omega)⟩ | exact ⟨HU10.out.cnt.cell, HU10.out.want.cell, HGC10.out.g0, HGC10.out.g1⟩ | exact ⟨HU9.out.cnt.cell, HU9.out.want.cell, HGC9.out.g0, HGC9.out.g1⟩ | exact ⟨HU8.out.cnt.cell, HU8.out.want.cell, HGC8.out.g0, HGC8.out.g1⟩ | exact ⟨HU7.out.cnt.cell, HU7.out.want.cell, HGC7.out.g0, HGC7.out.g1⟩ | exact ⟨HU6d.out.cnt.cell, HU6d.out.want.cell, HGC6d.out.g0, HGC6d.out.g1⟩ | exact ⟨HU6.out.cnt.cell, HU6.out.want.cell, HGC6.out.g0, HGC6.out.g1⟩) (first
        | (go_at_call 21; refine (Kind_err _ (some a) _ HU6d.out.hg (show CheckErr V6.drew 0 _ (some a) from ⟨B, Nat.zero_le _, HE6.out.keeps (below_drew (Below.refl V6.heap.size V6))⟩)).mono ?_; rintro e V7 ⟨rfl, hb⟩; have HU7 := Lib.hid (HU6d.out.below hb); have HGC7 := Lib.hid (HGC6d.out.below hb); have HE7 := Lib.hid ((HE6.out.keeps (below_drew (Below.refl V6.heap.size V6))).keeps hb); have hga7 := HGC7.out.g0; have hgb7 := HGC7.out.g1; clear hb; (try simp only [kindOf]))
        | (go_at_call 22; refine (Place_err _ (some a) _ (show CheckErr V7 0 _ (some a) from ⟨B, Nat.zero_le _, HE7.out⟩)).mono ?_; rintro e V8 ⟨rfl, hb⟩; have HU8 := Lib.hid (HU7.out.below hb); have HGC8 := Lib.hid (HGC7.out.below hb); clear hb; (try simp only [placeR]))
        | (go_at_call 12; refine (split_Trim.calls k _ _ _ E9.out).mono ?_; rintro e V9' ⟨rfl, ⟨nd3, rfl⟩⟩; have HU9 := Lib.hid (HU8.out.below (pw_below_drewN (Below.refl _ _) nd3)); have HGC9 := Lib.hid (HGC8.out.below (pw_below_drewN (Below.refl _ _) nd3)); generalize V8.drewN nd3 = V9 at HU9 HGC9 ⊢)
        | (go_at_call 23; refine (isoglossref04_Trim.calls k _ _ _ E10.out).mono ?_; rintro e V10 ⟨rfl, hb⟩; have HU10 := Lib.hid (HU9.out.below hb); have HGC10 := Lib.hid (HGC9.out.below hb); have hcr10 := HU10.out.res.cell; have hfr10 := HU10.out.res.frozen; clear hb))
      all_goals
        simp only [NoStop]
        try gi_wp2
        have hbx : Boxed (V10.setCell ⟨w.heap.size, 0, none⟩ (.bool true)) w.heap.size 4 (.bool true) := HU10.out.res.set _
        refine leaves_marks (n₀ := w.heap.size + 1) _ _ (HU10.out.marks.keeps (KeepsOthers.setCell _ _ _)) fun W' hb => ?_
        have hbx' : Boxed W' w.heap.size 4 (.bool true) := (hb.block _ (by omega)).trans hbx
        have hcell := hbx'.cell
        exact ⟨.bool true, by simp [results, Tryd.f6, go_sem, hcell], rfl, (HU10.out.bel.setCell (p := ⟨w.heap.size, 0, none⟩) (by simp) _).trans (hb.mono (by omega))⟩
  case stop =>
    rintro D c pre V hD hp hn hK
    exact absurd hp hn.out
end
end Go.Proofs.YtmkjifljciajbaaDoor.P
