/- The law SplitStops, walked by hand: two loops over the pieces of a text. Condition: the text has at most 2^47 bytes. -/
import Derived.Test.YtmkjifljciajbaaDoorHandM
import Derived.Test.YtmkjifljciajbaaDoorHandErr
import Derived.Test.YtmkjifljciajbaaDoorPx1
import Derived.Test.YtmkjifljciajbaaDoorPx7
namespace Go.Proofs.YtmkjifljciajbaaDoor.P
open Go.RowKit Go.Proofs.YtmkjifljciajbaaDoorW.PrintWords Go.Proofs.YtmkjifljciajbaaDoorW.PrintLast Go.Proofs.YtmkjifljciajbaaDoorW.PrintMore
section
open Go.Shelf Go.Proofs.YtmkjifljciajbaaDoor
set_option linter.unusedVariables false
attribute [local go_sem] Oper.semAt_some
attribute [local go_sem] max2_int min2_int max_two min_two max_three min_three max_four min_four
def isoglosslaw04_SplitStops.f (k : Nat) (a0 : ByteArray) (a1 : Int) : Option Bool :=
  (isoglosslaw04_awake.f k).bind fun up => (isoglosslaw04_short.f a0).bind fun s => (split_Split.f s).bind fun L => (isoglosslaw04_rest.f a1 12).bind fun n =>
    if up = true ∧ s.size ≤ 140737488355328 ∧ L = (eachB s).map (·.2) ∧ 1 ≤ L.length ∧ L.length ≤ 1000 ∧ 0 ≤ n ∧ n < 12 then some true else none
/-- What holds between two pieces of the first round of all. -/
structure SInv (w W : World) (E Bl : Nat) (A : Option Addr) (c : Nat) (L : List ByteArray) (s : ByteArray) (m i : Nat) : Prop where
  str : Boxed W w.heap.size 9 (.string s)
  res : Boxed W (w.heap.size + 1) 4 (.bool false)
  each : Boxed W E 9 (.string s)
  all : Boxed W Bl 24 (.slice A L.length c)
  k : Boxed W (Bl + 1) 3 (.int .i64 (m : Int))
  got : Boxed W (Bl + 2) 3 (.int .i64 (i : Int))
  row : ReadsOf Value.string ByteArray.empty W A L.length L
  bel : Below w.heap.size w W
theorem ownFrom_S {β : Type} {w : World} {B E Bl : Nat} {A : Option Addr} {c m : Nat} {L : List ByteArray} {s : ByteArray} (h : w.heap.size ≤ B) (f : β → Nat) : OwnFrom B (fun (b : β) W => SInv w W E Bl A c L s m (f b)) :=
  fun b W W' row hs hg hr => by
    have hk : ∀ {B : Nat} {t : TypeId} {v : Value}, Boxed W B t v → Boxed W' B t v := fun hb => (Own.from (boxed_own (β := Unit) _ _ (fun _ => _)) B) () W W' row hb hg hr
    exact ⟨hk hs.str, hk hs.res, hk hs.each, hk hs.all, hk hs.k, hk hs.got, ownFrom_reads (β := Unit) A L () W W' row hs.row hg hr, (ownFrom_below (β := Unit) (Nat.le_refl _) h) () W W' row hs.bel hg hr⟩
theorem SInv.count {w W : World} {E Bl : Nat} {A : Option Addr} {c m : Nat} {L : List ByteArray} {s : ByteArray} {i : Nat} (h : SInv w W E Bl A c L s m i) (h1 : w.heap.size + 1 < E) (h2 : E < Bl) (hA : ∀ ad, A = some ad → 0 < L.length → ad.block ≠ Bl + 2) (j : Nat) : SInv w (W.setCell ⟨Bl + 2, 0, none⟩ (.int .i64 (j : Int))) E Bl A c L s m j :=
  ⟨h.str.other (by omega) _, h.res.other (by omega) _, h.each.other (by omega) _, h.all.other (by omega) _, h.k.other (by omega) _, h.got.set _, ReadsOf.set h.row hA, h.bel.setCell (p := ⟨Bl + 2, 0, none⟩) (by simp; omega) _⟩
/-- What holds between two pieces of the second round of all. -/
structure TInv (w W : World) (E Bl Bn : Nat) (A : Option Addr) (c l m g : Nat) (s : ByteArray) (ds : List Deferred) (i : Nat) : Prop where
  res : Boxed W (w.heap.size + 1) 4 (.bool false)
  each : Boxed W E 9 (.string s)
  all : Boxed W Bl 24 (.slice A l c)
  k : Boxed W (Bl + 1) 3 (.int .i64 (m : Int))
  got : Boxed W (Bl + 2) 3 (.int .i64 (g : Int))
  n : Boxed W Bn 3 (.int .i64 (i : Int))
  bel : Below w.heap.size w W
  marks : Marks (w.heap.size + 2) W ds
theorem ownFrom_T {β : Type} {w : World} {B E Bl Bn : Nat} {A : Option Addr} {c l m g : Nat} {s : ByteArray} {ds : List Deferred} (h : w.heap.size ≤ B) (hlt : ∀ d' ∈ ds, ∃ q, d' = ({ target := .collected q, args := #[] } : Deferred) ∧ q < B) (f : β → Nat) : OwnFrom B (fun (b : β) W => TInv w W E Bl Bn A c l m g s ds (f b)) :=
  fun b W W' row hs hg hr => by
    have hk : ∀ {B : Nat} {t : TypeId} {v : Value}, Boxed W B t v → Boxed W' B t v := fun hb => (Own.from (boxed_own (β := Unit) _ _ (fun _ => _)) B) () W W' row hb hg hr
    exact ⟨hk hs.res, hk hs.each, hk hs.all, hk hs.k, hk hs.got, hk hs.n, (ownFrom_below (β := Unit) (Nat.le_refl _) h) () W W' row hs.bel hg hr, (ownFrom_marks (β := Unit) hlt) () W W' row hs.marks hg hr⟩
theorem TInv.step {w W : World} {E Bl Bn : Nat} {A : Option Addr} {c l m g : Nat} {s : ByteArray} {ds : List Deferred} {i : Nat} (h : TInv w W E Bl Bn A c l m g s ds i) (h1 : w.heap.size + 1 < E) (h2 : E < Bl) (h3 : Bl + 2 < Bn) (j : Nat) : TInv w (W.setCell ⟨Bn, 0, none⟩ (.int .i64 (j : Int))) E Bl Bn A c l m g s ds j :=
  ⟨h.res.other (by omega) _, h.each.other (by omega) _, h.all.other (by omega) _, h.k.other (by omega) _, h.got.other (by omega) _, h.n.set _, h.bel.setCell (p := ⟨Bn, 0, none⟩) (by simp; omega) _, h.marks.keeps (KeepsOthers.setCell _ _ _)⟩
theorem eqF (lb : Array Value) (W : World) : (binOp .eql 28 (.func (.func 26) #[] lb) .nilFunc).run Tryd.prog W = .ok (.bool false) W := by
  first
  | (simp [binOp, Op.equal, Result.andThen]; done)
  | kernel_rfl
/-- A piece lies in its text. -/
theorem eachGo_in (T : Iso.Str) : ∀ (l : Iso.Str) (a : Nat) (acc : Iso.Str), T.drop a = acc ++ l → a ≤ T.length → ∀ x ∈ Iso.eachGo a acc l, x.1 + x.2.length ≤ T.length ∧ (T.drop x.1).take x.2.length = x.2
  | [], a, acc, h, ha, x, hx => by
    obtain rfl : x = (a, acc) := by simpa [Iso.eachGo] using hx
    have hl := congrArg List.length h
    rw [List.length_drop, List.append_nil] at hl
    rw [List.append_nil] at h
    exact ⟨by show a + acc.length ≤ _; omega, by show (T.drop a).take acc.length = acc; rw [h, List.take_length]⟩
  | c :: t, a, acc, h, ha, x, hx => by
    have hl := congrArg List.length h
    rw [List.length_drop, List.length_append, List.length_cons] at hl
    rw [Iso.eachGo] at hx
    by_cases hc : c = 45
    · rw [if_pos hc] at hx
      rcases List.mem_cons.1 hx with rfl | hx
      · exact ⟨by show a + acc.length ≤ _; omega, by show (T.drop a).take acc.length = acc; rw [h, List.take_left]⟩
      · refine eachGo_in T t (a + acc.length + 1) [] ?_ (by omega) x hx
        rw [show a + acc.length + 1 = a + (acc.length + 1) from by omega, ← List.drop_drop, h, List.nil_append]
        rw [show acc ++ c :: t = (acc ++ [c]) ++ t from by simp]
        exact List.drop_left' (by simp)
    · rw [if_neg hc] at hx
      exact eachGo_in T t a (acc ++ [c]) (by rw [h]; simp) ha x hx
theorem piece_in {s : ByteArray} {x : Nat × ByteArray} (h : x ∈ eachB s) : x.1 + x.2.size ≤ s.size ∧ s.extract x.1 (x.1 + x.2.size) = x.2 := by
  unfold eachB at h
  obtain ⟨y, hy, rfl⟩ := List.mem_map.1 h
  obtain ⟨h1, h2⟩ := eachGo_in (Iso.bl s) (Iso.bl s) 0 [] rfl (by simp) y hy
  refine ⟨h1, Iso.bl_inj ?_⟩
  rw [Iso.bl_extract, Iso.bl_mk]
  show ((Iso.bl s).drop y.1).take (y.1 + y.2.length - y.1) = y.2
  rw [Nat.add_sub_cancel_left]; exact h2
set_option maxRecDepth 100000 in
set_option maxHeartbeats 8000000 in
theorem isoglosslaw04_SplitStops.calls (k : Nat) (a0 : ByteArray) (a1 : Int) (r0 : Bool) (w : World) (hg : w.cell? ⟨0, 0, none⟩ = some errGV) (h : isoglosslaw04_SplitStops.f k a0 a1 = some r0) (hrt : r0 = true) :
    Calls Tryd.prog 4 #[.string a0, .int .i64 a1] w fun e w' => e = .returned (.bool r0) ∧ Below w.heap.size w w' := by
  unfold isoglosslaw04_SplitStops.f at h
  obtain ⟨up, e1, h1⟩ := Option.bind_eq_some_iff.1 h
  obtain ⟨s, e2, h2⟩ := Option.bind_eq_some_iff.1 h1
  obtain ⟨L, e3, h3⟩ := Option.bind_eq_some_iff.1 h2
  obtain ⟨n, e4, h4⟩ := Option.bind_eq_some_iff.1 h3
  clear h h1 h2 h3
  obtain ⟨rfl, hss, hLe, hL1, hLl, hn0, hn8⟩ : up = true ∧ s.size ≤ 140737488355328 ∧ L = (eachB s).map (·.2) ∧ 1 ≤ L.length ∧ L.length ≤ 1000 ∧ 0 ≤ n ∧ n < 12 := by
    by_cases c : up = true ∧ s.size ≤ 140737488355328 ∧ L = (eachB s).map (·.2) ∧ 1 ≤ L.length ∧ L.length ≤ 1000 ∧ 0 ≤ n ∧ n < 12
    · exact c
    · rw [if_neg c] at h4; cases h4
  obtain ⟨m, rfl⟩ : ∃ m : Nat, n = m := ⟨n.toNat, by omega⟩
  subst hrt
  have E1 := Lib.hid e1
  have E2 := Lib.hid e2
  have E3 := Lib.hid e3
  have E4 := Lib.hid e4
  have HL := Lib.hid hLe
  have HG := Lib.hid hg
  clear e1 e2 e3 e4 h4 hLe hg
  refine (callsIn_wide (n := 3)).1 ?_
  refine callsIn_of_wp_marks Tryd.func4 rfl trivial ?_ rfl
  simp only [Tryd.ntmps4, List.size_toArray, List.length_cons, List.length_nil, Nat.reduceAdd, Nat.reduceSub, Array.replicate_succ, Array.replicate_zero, List.push_toArray, List.append_toArray, List.nil_append, List.cons_append]
  have b0 := (Boxed.new w 9 (.string a0)).alloc (.cells #[.bool false] 4)
  have b1 := Boxed.new (w.alloc (.cells #[.string a0] 9)) 4 (.bool false)
  simp only [World.size_alloc] at b1
  have HB0 := Lib.hid (((Below.refl w.heap.size w).alloc (Nat.le_refl _) (.cells #[.string a0] 9)).alloc (by simp) (.cells #[.bool false] 4))
  have B0 := Lib.hid b0
  have R0 := Lib.hid b1
  have heq := eqF
  clear b0 b1
  gi_wp2_with (first
    | (refine ⟨trivial, ?_⟩; gi_at_call 9; refine (callsIn_wide.2 (isoglosslaw04_awake.calls k _ _ (pw_cell_below HB0.out HG.out) E1.out)).mono ?_; rintro e w2 ⟨rfl, hb⟩; have B2 := Lib.hid (boxed_below2 B0.out hb); have R2 := Lib.hid (boxed_below2 R0.out hb); have HB2 := Lib.hid (below_then HB0.out HB0.out.size hb); clear hb HB0 B0 R0; have hc2 := B2.out.cell; have hf2 := B2.out.frozen)
    | (refine ⟨trivial, ?_⟩; gi_at_call 10; refine (callsIn_wide.2 (isoglosslaw04_short.calls _ _ _ E2.out)).mono ?_; rintro e w5 ⟨rfl, ⟨nd, rfl⟩⟩; have B3 := Lib.hid (boxed_below2 B2.out (pw_below_drewN (Below.refl _ _) nd)); have R3 := Lib.hid (boxed_below2 R2.out (pw_below_drewN (Below.refl _ _) nd)); have HB3 := Lib.hid (pw_below_drewN HB2.out nd); clear B2 R2 HB2)
    | (refine ⟨trivial, ?_⟩; gi_at_call 13; refine (each_in Fence.wide (3 - 1) trivial rfl _ _).mono ?_; rintro e w6' ⟨rfl, rfl⟩; have hw2 : w.heap.size + 1 < w2.heap.size := R3.out.lt; have B6 := Lib.hid ((B3.out.set (.string s)).alloc (.cells #[.string s] 9)); have R6 := Lib.hid ((Boxed.other (B' := w.heap.size) R3.out (by omega) (.string s)).alloc (.cells #[.string s] 9)); have HB6 := Lib.hid ((HB3.out.setCell (p := ⟨w.heap.size, 0, none⟩) (Nat.le_refl _) (.string s)).alloc (by simp; omega) (.cells #[.string s] 9)); have e6 := Boxed.new ((w2.drewN nd).setCell ⟨w.heap.size, 0, none⟩ (.string s)) 9 (.string s); rw [show ((w2.drewN nd).setCell ⟨w.heap.size, 0, none⟩ (.string s)).heap.size = w2.heap.size from by simp] at e6; have E6 := Lib.hid e6; clear e6 B3 R3 HB3 hc2 hf2; generalize ((w2.drewN nd).setCell ⟨w.heap.size, 0, none⟩ (.string s)).alloc (.cells #[.string s] 9) = w6 at B6 R6 HB6 E6 ⊢; have hc6 := B6.out.cell)
    | (refine ⟨trivial, ?_⟩; gi_at_call 11; refine (callsIn_wide.2 (split_Split.calls _ _ _ E3.out)).mono ?_; rintro e w7 ⟨v4, rfl, ho4, hb⟩; obtain ⟨A4, c4, rfl⟩ := Kd.R_slice ho4; have HO4 := Lib.hid ho4; have B7 := Lib.hid (boxed_below2 B6.out hb); have R7 := Lib.hid (boxed_below2 R6.out hb); have E7 := Lib.hid (boxed_below2 E6.out hb); have HB7 := Lib.hid (below_then HB6.out HB6.out.size hb); clear hb ho4 B6 R6 E6 HB6 hc6)
    | (refine ⟨trivial, ?_⟩; gi_at_call 14; refine (callsIn_wide.2 (isoglosslaw04_rest.calls _ _ _ _ E4.out)).mono ?_; rintro e w8 ⟨rfl, ⟨nd2, rfl⟩⟩))
  have hrow : ReadsOf Value.string ByteArray.empty w7 A4 L.length L := Kd.reads_of_C (enc := Value.string) (d := ByteArray.empty) (h1 := fun _ => rfl) (Kd.R_reads' HO4.out).2.2
  have hAb : ∀ ad, A4 = some ad → 0 < L.length → ad.block < w7.heap.size := fun ad e hn => by
    obtain ⟨ad', e', hc⟩ := hrow.2.2 hn
    rw [e] at e'; cases e'
    have := World.block_lt_of_cell? w7 _ (hc 0 hn)
    rwa [add_block] at this
  have hE7 : w2.heap.size < w7.heap.size := E7.out.lt
  have hDr : Below (w7.alloc (.cells #[.slice A4 L.length c4] 24)).heap.size (w7.alloc (.cells #[.slice A4 L.length c4] 24)) ((w7.alloc (.cells #[.slice A4 L.length c4] 24)).drewN nd2) := pw_below_drewN (Below.refl _ _) nd2
  have b1 := boxed_below2 (Boxed.new w7 24 (.slice A4 L.length c4)) hDr
  have b2 := Boxed.new ((w7.alloc (.cells #[.slice A4 L.length c4] 24)).drewN nd2) 3 (.int .i64 (m : Int))
  have b3 := Boxed.new (((w7.alloc (.cells #[.slice A4 L.length c4] 24)).drewN nd2).alloc (.cells #[.int .i64 (m : Int)] 3)) 3 (.int .i64 0)
  have hz1 : ((w7.alloc (.cells #[.slice A4 L.length c4] 24)).drewN nd2).heap.size = w7.heap.size + 1 := by simp
  rw [hz1] at b2
  rw [World.size_alloc, hz1] at b3
  have HS : Hid (SInv w ((((w7.alloc (.cells #[.slice A4 L.length c4] 24)).drewN nd2).alloc (.cells #[.int .i64 (m : Int)] 3)).alloc (.cells #[.int .i64 0] 3)) w2.heap.size w7.heap.size A4 c4 L s m 0) :=
    Lib.hid ⟨((boxed_below2 (B7.out.alloc _) hDr).alloc _).alloc _, ((boxed_below2 (R7.out.alloc _) hDr).alloc _).alloc _, ((boxed_below2 (E7.out.alloc _) hDr).alloc _).alloc _, (b1.alloc _).alloc _, b2.alloc _, b3, (((hrow.allocS _).below hDr).allocS _).allocS _,
      (((pw_below_drewN (HB7.out.alloc HB7.out.size _) nd2).alloc (by simp; omega) _).alloc (by simp; omega) _)⟩
  have hsz : ((((w7.alloc (.cells #[.slice A4 L.length c4] 24)).drewN nd2).alloc (.cells #[.int .i64 (m : Int)] 3)).alloc (.cells #[.int .i64 0] 3)).heap.size = w7.heap.size + 3 := by simp
  have bN := HS.out.each
  clear hrow b1 b2 b3 hDr HO4 B7 R7 E7 HB7 heq
  have hLl2 : (eachB s).length = L.length := by rw [HL.out, List.length_map]
  refine wpIn_rangeFunc_ownG (F := Fence.wide) rfl (by decide) (gf := 26) (lb := #[.pointer (some ⟨w2.heap.size, 0, none⟩)]) rfl trivial (enters_of Tryd.func26 (by kernel_rfl) rfl)
    (each_stops (3 - 1) (by decide) w2.heap.size s hss _ (by rw [hsz]; omega) bN.cell) KeepsCell.trans keepsCell_b (Below.refl _ _) (fun _ => rfl)
    (fun (pre : List (Pc s)) W => SInv w W w2.heap.size w7.heap.size A4 c4 L s m pre.length ∧ Hid (pre.map (·.1.2) <+: L ∧ pre.length ≤ m))
    (fun c (pre : List (Pc s)) W => (SInv w W w2.heap.size w7.heap.size A4 c4 L s m m ∧ Hid (c = .exit 0 ∧ pre.length = m + 1)) ∨ Hid (¬ pre.map (·.1.2) <+: L))
    (OwnFrom.and (ownFrom_S (by omega) (fun (pre : List (Pc s)) => pre.length)) (ownFrom_pure _ _))
    (fun c b W W' row hs hg hr => hs.elim (fun h => .inl ((OwnFrom.and (ownFrom_S (by omega) (fun (pre : List (Pc s)) => m)) (ownFrom_pure _ (fun (pre : List (Pc s)) => Hid (c = .exit 0 ∧ pre.length = m + 1)))) b W W' row h hg hr)) .inr)
    ⟨HS.out, List.nil_prefix, Nat.zero_le _⟩
    (fun (x : Pc s) => { tmps := #[.string a0, .int .i64 a1, .pointer (some ⟨w.heap.size, 0, none⟩), undef, .pointer (some ⟨w.heap.size + 1, 0, none⟩), .bool true, .func (.func 26) #[] #[.pointer (some ⟨w2.heap.size, 0, none⟩)], .pointer (some ⟨w7.heap.size, 0, none⟩), .pointer (some ⟨w7.heap.size + 1, 0, none⟩), .pointer (some ⟨w7.heap.size + 1 + 1, 0, none⟩), .int .i64 (x.1.1 : Int), .string x.1.2, undef, .bool true, .string a0, .string s, .string s, .func (.func 26) #[] #[.pointer (some ⟨w2.heap.size, 0, none⟩)], .func (.func 26) #[] #[.pointer (some ⟨w2.heap.size, 0, none⟩)], .bool false, .string s, .slice A4 L.length c4, .int .i64 a1, .int .i64 (m : Int), .func (.func 26) #[] #[.pointer (some ⟨w2.heap.size, 0, none⟩)], .int .i64 (x.1.1 : Int), .string x.1.2, undef, undef, undef, undef, undef, undef, undef, undef, undef, undef, undef, undef, undef, undef, undef, undef, undef, undef, undef, undef, undef, undef, undef, undef, undef, undef, undef, undef, undef, undef, undef, undef, undef, undef, undef, undef, undef, undef, undef, undef, undef, undef, undef, undef, undef, undef, undef, undef, undef, undef, undef, undef, undef, undef, undef, undef, undef, undef, undef, undef, undef, undef, undef, undef, undef], defers := [] }) ?assign ?body ?done ?stop
  case assign =>
    intro l x V K hK
    gi_wp2
    exact hK
  case body =>
    rintro l pre x V ⟨hS, hpre⟩ hlen
    have hlen2 : pre.length < L.length := by rw [← hLl2]; exact hlen
    have hY0 : ∃ y, Hid (L[pre.length]? = some y) := ⟨_, List.getElem?_eq_getElem hlen2⟩
    obtain ⟨y, HY⟩ := hY0
    obtain ⟨ad, hA, hx0⟩ := hS.row.2.2 (by omega)
    have hx := hx0 pre.length hlen2
    clear hx0
    rw [List.getD_eq_getElem?_getD, HY.out] at hx
    simp only [Option.getD_some] at hx
    obtain ⟨hin, hex⟩ := piece_in x.2
    have hcs := hS.str.cell
    have hcr := hS.res.cell
    have hcrf := hS.res.frozen
    have hcl := hS.all.cell
    have hck := hS.k.cell
    have hcg := hS.got.cell
    have hfg := hS.got.frozen
    have hlt : decide (L.length ≤ pre.length) = false := decide_eq_false (by omega)
    have hlt2 : decide ((L.length : Int) ≤ (pre.length : Int)) = false := decide_eq_false (by omega)
    have hl2 : decide ((pre.length : Int) < (L.length : Int)) = true := decide_eq_true (by omega)
    have hneg : decide ((x.1.1 : Int) < 0) = false := decide_eq_false (by omega)
    have hsum : decide ((s.size : Int) < (x.1.1 : Int) + (x.1.2.size : Int)) = false := decide_eq_false (by omega)
    have hle : pre.length ≤ m := hpre.out.2
    have hsl : ∀ W, (Instr.slice 9 (.string s) (some (.int .i64 (x.1.1 : Int))) (some (.int .i64 ((x.1.1 : Int) + (x.1.2.size : Int)))) none).run Tryd.prog W = .ok (.string x.1.2) W := fun W => by
      have := run_slice_string (P := Tryd.prog) (w := W) 9 s .i64 .i64 (x.1.1 : Int) ((x.1.1 : Int) + (x.1.2.size : Int)) Tryd.underlying9 (by omega) (by omega) (by omega)
      rwa [show ((x.1.1 : Int) + (x.1.2.size : Int)).toNat = x.1.1 + x.1.2.size from by omega, Int.toNat_natCast, hex] at this
    have HSV := Lib.hid hS
    have HEX := Lib.hid hex
    clear hS hex
    subst hA
    by_cases hm : pre.length = m
    · have c0 : ((pre.length : Int) == (m : Int)) = true := beq_iff_eq.2 (by omega)
      have HM := Lib.hid hm
      clear hm
      gi_wp2
      refine ⟨(KeepsOthers.refl V).from _, .inl ⟨?_, Lib.hid ⟨rfl, ?_⟩⟩⟩
      · have := HSV.out
        rwa [HM.out] at this
      · rw [List.length_append, List.length_singleton, HM.out]
    · have c0 : ((pre.length : Int) == (m : Int)) = false := beq_eq_false_iff_ne.2 (by omega)
      have HM := Lib.hid hm
      clear hm
      by_cases hxy : x.1.2.toList = y.toList
      · have HXY := Lib.hid hxy
        have d0 : (x.1.2.toList == y.toList) = true := beq_iff_eq.2 hxy
        have d1 : (x.1.2.toList != y.toList) = false := by rw [bne, d0]; rfl
        have d2 : (!(x.1.2.toList == y.toList)) = false := by rw [d0]; rfl
        clear hxy
        gi_wp2
        have hs := HSV.out.count (by omega) hE7 (fun ad e hn => by have := hAb ad e hn; omega) (pre.length + 1)
        rw [show (((pre.length + 1 : Nat)) : Int) = (pre.length : Int) + 1 from by omega] at hs
        refine ⟨(KeepsOthers.setCell _ _ _).from _, ?_, ?_, ?_⟩
        · exact fun v0 h0 => by rw [← h0, HSV.out.each.cell]; exact hs.each.cell
        · rw [List.length_append, List.length_singleton]; exact hs
        · refine ⟨?_, ?_⟩
          · show (pre ++ [x]).map (·.1.2) <+: L
            rw [List.map_append, List.map_cons, List.map_nil]
            exact (pre_step hpre.out.1 (by rw [List.length_map]; exact HY.out)).2 (ba_inj HXY.out)
          · rw [List.length_append, List.length_singleton]
            have := HM.out
            omega
      · have d0 : (x.1.2.toList == y.toList) = false := beq_eq_false_iff_ne.2 hxy
        have d1 : (x.1.2.toList != y.toList) = true := by rw [bne, d0]; rfl
        have d2 : (!(x.1.2.toList == y.toList)) = true := by rw [d0]; rfl
        gi_wp2
        exact ⟨(KeepsOthers.setCell _ _ _).from _, .inr (Lib.hid fun hp => hxy (by
          rw [List.map_append, List.map_cons, List.map_nil] at hp
          rw [(pre_step hpre.out.1 (by rw [List.length_map]; exact HY.out)).1 hp]))⟩
  case done =>
    rintro D ys V hD hys ⟨hS, hpre⟩ hK
    have hyl : ys.length = L.length := by have := congrArg List.length hys; rw [List.length_map] at this; omega
    rw [hyl] at hS
    have hgm : L.length ≤ m := by have := hpre.out.2; rwa [hyl] at this
    clear hys hpre hyl
    have HSV := Lib.hid hS
    have HKD := Lib.hid hK
    have hDl : w7.heap.size + 3 ≤ D := by rw [hsz] at hD; omega
    have hVD : D < V.heap.size := (Array.getElem?_eq_some_iff.1 hK).1
    clear hS hK hD bN HS
    gi_wp2
    have hM : Marks (w.heap.size + 2) V [{ target := .collected D, args := #[] }] := Marks.cons (ds := []) trivial (by omega) HKD.out (fun d hd => by cases hd)
    have q0 := Boxed.new V 3 (.int .i64 0)
    have HT : Hid (TInv w (V.alloc (.cells #[.int .i64 0] 3)) w2.heap.size w7.heap.size V.heap.size A4 c4 L.length m L.length s [{ target := .collected D, args := #[] }] 0) :=
      Lib.hid ⟨HSV.out.res.alloc _, HSV.out.each.alloc _, HSV.out.all.alloc _, HSV.out.k.alloc _, HSV.out.got.alloc _, q0, HSV.out.bel.alloc HSV.out.bel.size _, hM.below ((Below.refl V.heap.size V).alloc (Nat.le_refl _) _)⟩
    have bS := HSV.out.each.alloc (.cells #[.int .i64 0] 3)
    clear hM HSV HKD q0
    have hlt2 : ∀ d' ∈ ([{ target := .collected D, args := #[] }] : List Deferred), ∃ q, d' = ({ target := .collected q, args := #[] } : Deferred) ∧ q < (V.alloc (.cells #[.int .i64 0] 3)).heap.size := fun d hd => ⟨D, by simpa using hd, by simp; omega⟩
    refine wpIn_rangeFunc_ownG (F := Fence.wide) rfl (by decide) (gf := 26) (lb := #[.pointer (some ⟨w2.heap.size, 0, none⟩)]) rfl trivial (enters_of Tryd.func26 (by kernel_rfl) rfl)
      (each_stops (3 - 1) (by decide) w2.heap.size s hss _ (by simp; omega) bS.cell) KeepsCell.trans keepsCell_b (Below.refl _ _) (fun _ => rfl)
      (fun (pre : List (Pc s)) W => TInv w W w2.heap.size w7.heap.size V.heap.size A4 c4 L.length m L.length s [{ target := .collected D, args := #[] }] pre.length)
      (fun c (pre : List (Pc s)) W => False)
      (ownFrom_T (by simp; omega) hlt2 (fun (pre : List (Pc s)) => pre.length))
      (fun c => ownFrom_pure _ (fun _ => False))
      HT.out
      (fun (x : Pc s) => { tmps := #[.string a0, .int .i64 a1, .pointer (some ⟨w.heap.size, 0, none⟩), undef, .pointer (some ⟨w.heap.size + 1, 0, none⟩), .bool true, .func (.func 26) #[] #[.pointer (some ⟨w2.heap.size, 0, none⟩)], .pointer (some ⟨w7.heap.size, 0, none⟩), .pointer (some ⟨w7.heap.size + 1, 0, none⟩), .pointer (some ⟨w7.heap.size + 1 + 1, 0, none⟩), undef, undef, .pointer (some ⟨V.heap.size, 0, none⟩), .bool true, .string a0, .string s, .string s, .func (.func 26) #[] #[.pointer (some ⟨w2.heap.size, 0, none⟩)], .func (.func 26) #[] #[.pointer (some ⟨w2.heap.size, 0, none⟩)], .bool false, .string s, .slice A4 L.length c4, .int .i64 a1, .int .i64 (m : Int), .func (.func 26) #[] #[.pointer (some ⟨w2.heap.size, 0, none⟩)], undef, undef, undef, undef, undef, undef, undef, undef, undef, undef, undef, undef, undef, undef, undef, undef, undef, undef, undef, undef, undef, undef, undef, undef, undef, undef, undef, undef, undef, undef, undef, undef, undef, undef, undef, undef, undef, undef, undef, undef, undef, undef, undef, .func (.func 26) #[] #[.pointer (some ⟨w2.heap.size, 0, none⟩)], .int .i64 (x.1.1 : Int), .string x.1.2, undef, undef, undef, undef, undef, undef, undef, undef, undef, undef, undef, undef, undef, undef, undef, undef, undef, undef, undef, undef, undef], defers := [] }) ?assign2 ?body2 ?done2 ?stop2
    case assign2 =>
      intro l x V' K hK
      gi_wp2
      exact hK
    case body2 =>
      rintro l pre x V' hT hlen
      have hcn := hT.n.cell
      have hfn := hT.n.frozen
      have hlen2 : pre.length < 1000 := by omega
      have HTV := Lib.hid hT
      clear hT
      gi_wp2
      have hs := HTV.out.step (by omega) hE7 (by omega) (pre.length + 1)
      rw [show (((pre.length + 1 : Nat)) : Int) = (pre.length : Int) + 1 from by omega] at hs
      refine ⟨(KeepsOthers.setCell _ _ _).from _, ?_, ?_⟩
      · exact fun v0 h0 => by rw [← h0, HTV.out.each.cell]; exact hs.each.cell
      · show TInv w _ w2.heap.size w7.heap.size V.heap.size A4 c4 L.length m L.length s [{ target := .collected D, args := #[] }] (pre ++ [x]).length
        rw [List.length_append, List.length_singleton]; exact hs
    case done2 =>
      rintro D2 ys2 V3 hD2 hys2 hT hK2
      have hyl2 : ys2.length = L.length := by have := congrArg List.length hys2; rw [List.length_map] at this; omega
      rw [hyl2] at hT
      have hD3 : V.heap.size + 1 ≤ D2 := by simp at hD2; omega
      have hM := hT.marks.cons (D := D2) (by omega) hK2 (fun d hd => ⟨D, by simpa using hd, by omega⟩)
      have HTV := Lib.hid hT
      have HM := Lib.hid hM
      have hck := hT.k.cell
      have hcg := hT.got.cell
      have hcr := hT.res.cell
      have hfr := hT.res.frozen
      have hcw := hT.all.cell
      have hcn := hT.n.cell
      have HL1 := Lib.hid hL1
      clear hT hM hys2 hyl2 hK2 hL1 hsz hz1 hLl2
      gi_wp2
      all_goals
        have hL1' := HL1.out
        try rw [show ((L.length : Int) == (m : Int)) = true from beq_iff_eq.2 (by omega)]
        try rw [show decide (1 ≤ (L.length : Int)) = true from decide_eq_true (by omega)]
        try simp only [Bool.and_self]
        have hbx : Boxed (V3.setCell ⟨w.heap.size + 1, 0, none⟩ (.bool true)) (w.heap.size + 1) 4 (.bool true) := HTV.out.res.set _
        refine leaves_marks (n₀ := w.heap.size + 2) _ _ (HM.out.keeps (KeepsOthers.setCell _ _ _)) fun W' hb => ?_
        have hbx' : Boxed W' (w.heap.size + 1) 4 (.bool true) := (hb.block _ (by omega)).trans hbx
        have hcell := hbx'.cell
        exact ⟨.bool true, by simp [results, Tryd.f4, go_sem, hcell], rfl, (HTV.out.bel.setCell (p := ⟨w.heap.size + 1, 0, none⟩) (by simp) _).trans (hb.mono (by omega))⟩
    case stop2 =>
      rintro D2 c2 pre2 V3 hD2 hp2 hf hK2
      exact hf.elim
  case stop =>
    rintro D c pre V hD hp hJ hK
    have hp2 : pre.map (·.1.2) <+: L := by
      have := hp.map (fun x : Nat × ByteArray => x.2)
      rw [List.map_map, ← HL.out] at this
      exact this
    rcases hJ with ⟨hS, hn⟩ | hn
    rotate_left
    · exact absurd hp2 hn.out
    obtain ⟨rfl, hn1⟩ := hn.out
    have hgm : m < L.length := by have := hp2.length_le; rw [List.length_map] at this; omega
    clear hp hp2 hn hn1
    have HSV := Lib.hid hS
    have HKD := Lib.hid hK
    have hDl : w7.heap.size + 3 ≤ D := by rw [hsz] at hD; omega
    have hVD : D < V.heap.size := (Array.getElem?_eq_some_iff.1 hK).1
    clear hS hK hD bN HS
    gi_wp2
    have hM : Marks (w.heap.size + 2) V [{ target := .collected D, args := #[] }] := Marks.cons (ds := []) trivial (by omega) HKD.out (fun d hd => by cases hd)
    have q0 := Boxed.new V 3 (.int .i64 0)
    have HT : Hid (TInv w (V.alloc (.cells #[.int .i64 0] 3)) w2.heap.size w7.heap.size V.heap.size A4 c4 L.length m m s [{ target := .collected D, args := #[] }] 0) :=
      Lib.hid ⟨HSV.out.res.alloc _, HSV.out.each.alloc _, HSV.out.all.alloc _, HSV.out.k.alloc _, HSV.out.got.alloc _, q0, HSV.out.bel.alloc HSV.out.bel.size _, hM.below ((Below.refl V.heap.size V).alloc (Nat.le_refl _) _)⟩
    have bS := HSV.out.each.alloc (.cells #[.int .i64 0] 3)
    clear hM HSV HKD q0
    have hlt2 : ∀ d' ∈ ([{ target := .collected D, args := #[] }] : List Deferred), ∃ q, d' = ({ target := .collected q, args := #[] } : Deferred) ∧ q < (V.alloc (.cells #[.int .i64 0] 3)).heap.size := fun d hd => ⟨D, by simpa using hd, by simp; omega⟩
    refine wpIn_rangeFunc_ownG (F := Fence.wide) rfl (by decide) (gf := 26) (lb := #[.pointer (some ⟨w2.heap.size, 0, none⟩)]) rfl trivial (enters_of Tryd.func26 (by kernel_rfl) rfl)
      (each_stops (3 - 1) (by decide) w2.heap.size s hss _ (by simp; omega) bS.cell) KeepsCell.trans keepsCell_b (Below.refl _ _) (fun _ => rfl)
      (fun (pre : List (Pc s)) W => TInv w W w2.heap.size w7.heap.size V.heap.size A4 c4 L.length m m s [{ target := .collected D, args := #[] }] pre.length)
      (fun c (pre : List (Pc s)) W => False)
      (ownFrom_T (by simp; omega) hlt2 (fun (pre : List (Pc s)) => pre.length))
      (fun c => ownFrom_pure _ (fun _ => False))
      HT.out
      (fun (x : Pc s) => { tmps := #[.string a0, .int .i64 a1, .pointer (some ⟨w.heap.size, 0, none⟩), undef, .pointer (some ⟨w.heap.size + 1, 0, none⟩), .bool true, .func (.func 26) #[] #[.pointer (some ⟨w2.heap.size, 0, none⟩)], .pointer (some ⟨w7.heap.size, 0, none⟩), .pointer (some ⟨w7.heap.size + 1, 0, none⟩), .pointer (some ⟨w7.heap.size + 1 + 1, 0, none⟩), undef, undef, .pointer (some ⟨V.heap.size, 0, none⟩), .bool true, .string a0, .string s, .string s, .func (.func 26) #[] #[.pointer (some ⟨w2.heap.size, 0, none⟩)], .func (.func 26) #[] #[.pointer (some ⟨w2.heap.size, 0, none⟩)], .bool false, .string s, .slice A4 L.length c4, .int .i64 a1, .int .i64 (m : Int), .func (.func 26) #[] #[.pointer (some ⟨w2.heap.size, 0, none⟩)], undef, undef, undef, undef, undef, undef, undef, undef, undef, undef, undef, undef, undef, undef, undef, undef, undef, undef, undef, undef, undef, undef, undef, undef, undef, undef, undef, undef, undef, undef, undef, undef, undef, undef, undef, undef, undef, undef, undef, undef, undef, undef, undef, .func (.func 26) #[] #[.pointer (some ⟨w2.heap.size, 0, none⟩)], .int .i64 (x.1.1 : Int), .string x.1.2, undef, undef, undef, undef, undef, undef, undef, undef, undef, undef, undef, undef, undef, undef, undef, undef, undef, undef, undef, undef, undef], defers := [] }) ?assign3 ?body3 ?done3 ?stop3
    case assign3 =>
      intro l x V' K hK
      gi_wp2
      exact hK
    case body3 =>
      rintro l pre x V' hT hlen
      have hcn := hT.n.cell
      have hfn := hT.n.frozen
      have hlen2 : pre.length < 1000 := by omega
      have HTV := Lib.hid hT
      clear hT
      gi_wp2
      have hs := HTV.out.step (by omega) hE7 (by omega) (pre.length + 1)
      rw [show (((pre.length + 1 : Nat)) : Int) = (pre.length : Int) + 1 from by omega] at hs
      refine ⟨(KeepsOthers.setCell _ _ _).from _, ?_, ?_⟩
      · exact fun v0 h0 => by rw [← h0, HTV.out.each.cell]; exact hs.each.cell
      · show TInv w _ w2.heap.size w7.heap.size V.heap.size A4 c4 L.length m m s [{ target := .collected D, args := #[] }] (pre ++ [x]).length
        rw [List.length_append, List.length_singleton]; exact hs
    case done3 =>
      rintro D2 ys2 V3 hD2 hys2 hT hK2
      have hyl2 : ys2.length = L.length := by have := congrArg List.length hys2; rw [List.length_map] at this; omega
      rw [hyl2] at hT
      have hD3 : V.heap.size + 1 ≤ D2 := by simp at hD2; omega
      have hM := hT.marks.cons (D := D2) (by omega) hK2 (fun d hd => ⟨D, by simpa using hd, by omega⟩)
      have HTV := Lib.hid hT
      have HM := Lib.hid hM
      have hck := hT.k.cell
      have hcg := hT.got.cell
      have hcr := hT.res.cell
      have hfr := hT.res.frozen
      have hcw := hT.all.cell
      have hcn := hT.n.cell
      have HL1 := Lib.hid hL1
      clear hT hM hys2 hyl2 hK2 hL1 hsz hz1 hLl2
      gi_wp2
      all_goals
        have hL1' := HL1.out
        try omega
        try rw [show decide (1 ≤ (L.length : Int)) = true from decide_eq_true (by omega)]
        try simp only [Bool.and_self]
        have hbx : Boxed (V3.setCell ⟨w.heap.size + 1, 0, none⟩ (.bool true)) (w.heap.size + 1) 4 (.bool true) := HTV.out.res.set _
        refine leaves_marks (n₀ := w.heap.size + 2) _ _ (HM.out.keeps (KeepsOthers.setCell _ _ _)) fun W' hb => ?_
        have hbx' : Boxed W' (w.heap.size + 1) 4 (.bool true) := (hb.block _ (by omega)).trans hbx
        have hcell := hbx'.cell
        exact ⟨.bool true, by simp [results, Tryd.f4, go_sem, hcell], rfl, (HTV.out.bel.setCell (p := ⟨w.heap.size + 1, 0, none⟩) (by simp) _).trans (hb.mono (by omega))⟩
    case stop3 =>
      rintro D2 c2 pre2 V3 hD2 hp2 hf hK2
      exact hf.elim
end
end Go.Proofs.YtmkjifljciajbaaDoor.P
