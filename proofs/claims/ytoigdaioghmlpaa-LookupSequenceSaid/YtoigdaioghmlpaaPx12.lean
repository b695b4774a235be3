-- Written for this claim by the session's own run of the print, functions proved by hand put in.
import Derived.Test.YtoigdaioghmlpaaPx0
import Derived.Test.YtoigdaioghmlpaaPx1
import Derived.Test.YtoigdaioghmlpaaPx3
import Derived.Test.YtoigdaioghmlpaaPx4
import Derived.Test.YtoigdaioghmlpaaPx8
namespace Go.Proofs.Ytoigdaioghmlpaa.P
open Go.RowKit Go.Proofs.YtoigdaioghmlpaaW.PrintWords Go.Proofs.YtoigdaioghmlpaaW.PrintLast Go.Proofs.YtoigdaioghmlpaaW.PrintMore
attribute [local go_sem] max2_int min2_int max_two min_two max_three min_three max_four min_four   -- for this text's walks alone
set_option linter.unusedVariables false
set_option linter.unusedSimpArgs false

/-! ### isoglosslaw21_LookupSequence: function 3 (by hand) -/
section
open Go.Shelf Go.Proofs.Ytoigdaioghmlpaa
set_option linter.unusedVariables false
attribute [local go_sem] Oper.semAt_some
def isoglosslaw21_LookupSequence.f (k : Nat) (a0 : ByteArray) (a1 : Int) : Option Bool :=
  (isoglosslaw21_awake.f k).bind fun up => (isoglosslaw21_short.f a0).bind fun s => (isoglossref21_Sequence.f k s).bind fun want => (lookup_seq.f k s).bind fun L => (isoglosslaw21_rest.f a1 8).bind fun n =>
    if up = true ∧ want = L ∧ L.length ≤ 1000 ∧ 0 ≤ n ∧ n < 8 then some true else none
theorem ownFrom_reads {β : Type} {B : Nat} (A : Option Addr) (L : List ByteArray) : OwnFrom B (fun (_ : β) W => ReadsOf Value.string ByteArray.empty W A L.length L) :=
  fun s W W' row hs hg hr => ⟨hs.1, hs.2.1, fun hn => by
    obtain ⟨ad, e, hc⟩ := hs.2.2 hn
    exact ⟨ad, e, fun j hj => cell_kept (hc j hj) hg (fun r e => (hr r e).2)⟩⟩
/-- What holds between two texts of the first round of all. -/
structure SInv (w W : World) (Bw Bs Bi : Nat) (A : Option Addr) (c : Nat) (L : List ByteArray) (s : ByteArray) (i : Nat) : Prop where
  res : Boxed W w.heap.size 4 (.bool false)
  want : Boxed W Bw 24 (.slice A L.length c)
  row : ReadsOf Value.string ByteArray.empty W A L.length L
  str : Boxed W Bs 9 (.string s)
  cnt : Boxed W Bi 3 (.int .i64 (i : Int))
  bel : Below w.heap.size w W
theorem ownFrom_S {β : Type} {w : World} {B Bw Bs Bi : Nat} {A : Option Addr} {c : Nat} {L : List ByteArray} {s : ByteArray} (h : w.heap.size ≤ B) (f : β → Nat) : OwnFrom B (fun (b : β) W => SInv w W Bw Bs Bi A c L s (f b)) :=
  fun b W W' row hs hg hr => by
    have hk : ∀ {B : Nat} {t : TypeId} {v : Value}, Boxed W B t v → Boxed W' B t v := fun hb => (Own.from (boxed_own (β := Unit) _ _ (fun _ => _)) B) () W W' row hb hg hr
    exact ⟨hk hs.res, hk hs.want, ownFrom_reads (β := Unit) A L () W W' row hs.row hg hr, hk hs.str, hk hs.cnt, (ownFrom_below (β := Unit) (Nat.le_refl _) h) () W W' row hs.bel hg hr⟩
theorem SInv.below {w W W' : World} {Bw Bs Bi : Nat} {A : Option Addr} {c : Nat} {L : List ByteArray} {s : ByteArray} {i : Nat} (h : SInv w W Bw Bs Bi A c L s i) (hb : Below W.heap.size W W') : SInv w W' Bw Bs Bi A c L s i :=
  ⟨boxed_below2 h.res hb, boxed_below2 h.want hb, h.row.below hb, boxed_below2 h.str hb, boxed_below2 h.cnt hb, below_then h.bel h.bel.size hb⟩
theorem SInv.count {w W : World} {Bw Bs Bi : Nat} {A : Option Addr} {c : Nat} {L : List ByteArray} {s : ByteArray} {i : Nat} (h : SInv w W Bw Bs Bi A c L s i) (h1 : Bi ≠ w.heap.size) (h2 : Bi ≠ Bw) (h3 : Bi ≠ Bs) (hle : w.heap.size ≤ Bi) (hA : ∀ ad, A = some ad → 0 < L.length → ad.block ≠ Bi) (j : Nat) : SInv w (W.setCell ⟨Bi, 0, none⟩ (.int .i64 (j : Int))) Bw Bs Bi A c L s j :=
  ⟨h.res.other (fun e => h1 e.symm) _, h.want.other (fun e => h2 e.symm) _, ⟨h.row.1, h.row.2.1, fun hn => by
    obtain ⟨ad, e, hc⟩ := h.row.2.2 hn
    refine ⟨ad, e, fun q hq => ?_⟩
    rw [World.cell?_setCell_other _ _ _ _ (fun x => hA ad e hn (by have := congrArg Addr.block x; simp only [add_block] at this; exact this.symm))]
    exact hc q hq⟩, h.str.other (fun e => h3 e.symm) _, h.cnt.set _, h.bel.setCell (p := ⟨Bi, 0, none⟩) hle _⟩
/-- What holds between two texts of the second round of all. -/
structure TInv (w W : World) (Bk Bw Bi : Nat) (A : Option Addr) (c n m : Nat) (ds : List Deferred) (g : Nat) : Prop where
  k : Boxed W Bk 3 (.int .i64 (m : Int))
  got : Boxed W (Bk + 1) 3 (.int .i64 (g : Int))
  res : Boxed W w.heap.size 4 (.bool false)
  want : Boxed W Bw 24 (.slice A n c)
  cnt : Boxed W Bi 3 (.int .i64 (n : Int))
  bel : Below w.heap.size w W
  marks : Marks (w.heap.size + 1) W ds
theorem ownFrom_T {β : Type} {w : World} {B Bk Bw Bi : Nat} {A : Option Addr} {c n m : Nat} {ds : List Deferred} (h : w.heap.size ≤ B) (hlt : ∀ d' ∈ ds, ∃ q, d' = ({ target := .collected q, args := #[] } : Deferred) ∧ q < B) (f : β → Nat) : OwnFrom B (fun (b : β) W => TInv w W Bk Bw Bi A c n m ds (f b)) :=
  fun b W W' row hs hg hr => by
    have hk : ∀ {B : Nat} {t : TypeId} {v : Value}, Boxed W B t v → Boxed W' B t v := fun hb => (Own.from (boxed_own (β := Unit) _ _ (fun _ => _)) B) () W W' row hb hg hr
    exact ⟨hk hs.k, hk hs.got, hk hs.res, hk hs.want, hk hs.cnt, (ownFrom_below (β := Unit) (Nat.le_refl _) h) () W W' row hs.bel hg hr, (ownFrom_marks (β := Unit) hlt) () W W' row hs.marks hg hr⟩
theorem TInv.step {w W : World} {Bk Bw Bi : Nat} {A : Option Addr} {c n m : Nat} {ds : List Deferred} {g : Nat} (h : TInv w W Bk Bw Bi A c n m ds g) (h1 : w.heap.size < Bk) (h2 : Bw < Bk) (h3 : Bi < Bk) (j : Nat) : TInv w (W.setCell ⟨Bk + 1, 0, none⟩ (.int .i64 (j : Int))) Bk Bw Bi A c n m ds j :=
  ⟨h.k.other (by omega) _, h.got.set _, h.res.other (by omega) _, h.want.other (by omega) _, h.cnt.other (by omega) _, h.bel.setCell (p := ⟨Bk + 1, 0, none⟩) (by simp; omega) _, h.marks.keeps (KeepsOthers.setCell _ _ _)⟩
theorem ba_inj {x y : ByteArray} (h : x.toList = y.toList) : x = y := by
  rw [Go.ByteArray.toList_eq, Go.ByteArray.toList_eq] at h
  exact ByteArray.ext (Array.toList_inj.1 h)
theorem pre_step {L pre : List ByteArray} {x y : ByteArray} (h : pre <+: L) (hy : L[pre.length]? = some y) : pre ++ [x] <+: L ↔ x = y := by
  obtain ⟨t, rfl⟩ := h
  rw [List.getElem?_append_right (Nat.le_refl _), Nat.sub_self] at hy
  rw [List.prefix_append_right_inj]
  cases t with
  | nil => cases hy
  | cons z t =>
    obtain rfl := Option.some.inj hy
    exact ⟨fun ⟨u, hu⟩ => by cases hu; rfl, fun e => ⟨t, by rw [e]; rfl⟩⟩
theorem eqF (lb : Array Value) (W : World) : (binOp .eql 27 (.func (.func 24) #[] lb) .nilFunc).run Try.prog W = .ok (.bool false) W := by
  first
  | rfl
  | (simp [binOp, run_underlying Try.underlying27, Op.equal, Result.andThen]; done)
set_option maxRecDepth 100000 in
set_option maxHeartbeats 8000000 in
theorem isoglosslaw21_LookupSequence.calls (k : Nat) (a0 : ByteArray) (a1 : Int) (r0 : Bool) (w : World) (h : isoglosslaw21_LookupSequence.f k a0 a1 = some r0) (hrt : r0 = true) :
    Calls Try.prog 3 #[.string a0, .int .i64 a1] w fun e w' => e = .returned (.bool r0) ∧ Below w.heap.size w w' := by
  unfold isoglosslaw21_LookupSequence.f at h
  obtain ⟨up, e1, h⟩ := Option.bind_eq_some_iff.1 h
  obtain ⟨s, e2, h⟩ := Option.bind_eq_some_iff.1 h
  obtain ⟨want, e3, h⟩ := Option.bind_eq_some_iff.1 h
  obtain ⟨L, e4, h⟩ := Option.bind_eq_some_iff.1 h
  obtain ⟨n, e5, h⟩ := Option.bind_eq_some_iff.1 h
  obtain ⟨rfl, rfl, hLl, hn0, hn8⟩ : up = true ∧ want = L ∧ L.length ≤ 1000 ∧ 0 ≤ n ∧ n < 8 := by
    by_cases c : up = true ∧ want = L ∧ L.length ≤ 1000 ∧ 0 ≤ n ∧ n < 8
    · exact c
    · rw [if_neg c] at h; cases h
  rename List ByteArray => L
  obtain ⟨m, rfl⟩ : ∃ m : Nat, n = m := ⟨n.toNat, by omega⟩
  subst hrt
  have E1 := Lib.hid e1
  have E2 := Lib.hid e2
  have E3 := Lib.hid e3
  have E4 := Lib.hid e4
  have E5 := Lib.hid e5
  clear e1 e2 e3 e4 e5 h
  refine (callsIn_wide (n := 3)).1 ?_
  refine callsIn_of_wp_marks Try.func3 rfl trivial ?_ rfl
  simp only [Try.ntmps3, List.size_toArray, List.length_cons, List.length_nil, Nat.reduceAdd, Nat.reduceSub, Array.replicate_succ, Array.replicate_zero, List.push_toArray, List.append_toArray, List.nil_append, List.cons_append]
  have b0 := Boxed.new w 4 (.bool false)
  have HB0 := Lib.hid ((Below.refl w.heap.size w).alloc (Nat.le_refl _) (.cells #[.bool false] 4))
  have B0 := Lib.hid b0
  have heq := eqF
  clear b0
  gi_wp2_with (first
    | (refine ⟨trivial, ?_⟩; gi_at_call 9; refine (callsIn_wide.2 (isoglosslaw21_awake.calls k _ _ E1.out)).mono ?_; rintro e w2 ⟨rfl, hb⟩; have B2 := Lib.hid (boxed_below2 B0.out hb); have HB2 := Lib.hid (below_then HB0.out HB0.out.size hb); clear hb HB0 B0)
    | (refine ⟨trivial, ?_⟩; gi_at_call 10; refine (callsIn_wide.2 (isoglosslaw21_short.calls _ _ _ E2.out)).mono ?_; rintro e w5 ⟨rfl, ⟨nd, rfl⟩⟩; have B3 := Lib.hid (boxed_below2 B2.out (pw_below_drewN (Below.refl _ _) nd)); have HB3 := Lib.hid (pw_below_drewN HB2.out nd); clear B2 HB2)
    | (refine ⟨trivial, ?_⟩; gi_at_call 11; refine (callsIn_wide.2 (isoglossref21_Sequence.calls k _ _ _ E3.out)).mono ?_; rintro e w4 ⟨v4, rfl, ho4, hb⟩; obtain ⟨A4, c4, rfl⟩ := Kd.R_slice ho4; have HO4 := Lib.hid ho4; have B4 := Lib.hid (boxed_below2 B3.out hb); have HB4 := Lib.hid (below_then HB3.out HB3.out.size hb); clear hb ho4 B3 HB3)
    | (refine ⟨trivial, ?_⟩; gi_at_call 12; refine (sequence_in Fence.wide (3 - 1) trivial rfl _ _).mono ?_; rintro e w6 ⟨rfl, rfl⟩))
  have hrow : ReadsOf Value.string ByteArray.empty w4 A4 L.length L := Kd.reads_of_C (enc := Value.string) (d := ByteArray.empty) (h1 := fun _ => rfl) (Kd.R_reads' HO4.out).2.2
  have hAb : ∀ ad, A4 = some ad → 0 < L.length → ad.block < w4.heap.size := fun ad e hn => by
    obtain ⟨ad', e', hc⟩ := hrow.2.2 hn
    rw [e] at e'; cases e'
    have := World.block_lt_of_cell? w4 _ (hc 0 hn)
    rwa [add_block] at this
  have b1 := Boxed.new w4 24 (.slice A4 L.length c4)
  have b2 := Boxed.new (w4.alloc (.cells #[.slice A4 L.length c4] 24)) 9 (.string s)
  have b3 := Boxed.new ((w4.alloc (.cells #[.slice A4 L.length c4] 24)).alloc (.cells #[.string s] 9)) 3 (.int .i64 0)
  simp only [World.size_alloc] at b2 b3
  have hwz : w.heap.size < w4.heap.size := B4.out.lt
  have HS : Hid (SInv w (((w4.alloc (.cells #[.slice A4 L.length c4] 24)).alloc (.cells #[.string s] 9)).alloc (.cells #[.int .i64 0] 3)) w4.heap.size (w4.heap.size + 1) (w4.heap.size + 1 + 1) A4 c4 L s 0) :=
    Lib.hid ⟨((B4.out.alloc _).alloc _).alloc _, (b1.alloc _).alloc _, ((hrow.allocS _).allocS _).allocS _, b2.alloc _, b3, ((HB4.out.alloc HB4.out.size _).alloc (by simp; omega) _).alloc (by simp; omega) _⟩
  have bN := b2.alloc (.cells #[.int .i64 0] 3)
  clear hrow b1 b2 b3 HO4 B4 HB4 heq
  have hsz : (((w4.alloc (.cells #[.slice A4 L.length c4] 24)).alloc (.cells #[.string s] 9)).alloc (.cells #[.int .i64 0] 3)).heap.size = w4.heap.size + 3 := by simp
  refine wpIn_rangeFunc_ownG (F := Fence.wide) rfl (by decide) (gf := 24) (lb := #[.pointer (some ⟨w4.heap.size + 1, 0, none⟩)]) rfl trivial (enters_of Try.func24 (by kernel_rfl) rfl)
    (seq_stops (3 - 1) (by decide) (w4.heap.size + 1) s k L E4.out _ (by simp) bN.cell) (fun _ _ => trivial) (fun _ _ _ _ _ _ _ _ => trivial) (Below.refl _ _) (fun _ => rfl)
    (fun (pre : List {x // x ∈ L}) W => SInv w W w4.heap.size (w4.heap.size + 1) (w4.heap.size + 1 + 1) A4 c4 L s pre.length ∧ Hid (pre.map (·.1) <+: L))
    (fun c (pre : List {x // x ∈ L}) W => Hid (¬ pre.map (·.1) <+: L))
    (OwnFrom.and (ownFrom_S (by omega) (fun (pre : List {x // x ∈ L}) => pre.length)) (ownFrom_pure _ _))
    (fun c => ownFrom_pure _ _)
    ⟨HS.out, List.nil_prefix⟩
    (fun (x : {x // x ∈ L}) => { tmps := #[.string s, .int .i64 a1, undef, undef, .pointer (some ⟨w.heap.size, 0, none⟩), .bool true, .pointer (some ⟨w4.heap.size, 0, none⟩), .func (.func 24) #[] #[.pointer (some ⟨w4.heap.size + 1, 0, none⟩)], .pointer (some ⟨w4.heap.size + 1 + 1, 0, none⟩), .string x.1, undef, undef, .bool true, .string a0, .string s, .string s, .slice A4 L.length c4, .string s, .func (.func 24) #[] #[.pointer (some ⟨w4.heap.size + 1, 0, none⟩)], .func (.func 24) #[] #[.pointer (some ⟨w4.heap.size + 1, 0, none⟩)], .bool false, .func (.func 24) #[] #[.pointer (some ⟨w4.heap.size + 1, 0, none⟩)], .string x.1, undef, undef, undef, undef, undef, undef, undef, undef, undef, undef, undef, undef, undef, undef, undef, undef, undef, undef, undef, undef, undef, undef, undef, undef, undef, undef, undef, undef, undef, undef, undef, undef, undef, undef, undef, undef, undef], defers := [] }) ?assign ?body ?done ?stop
  case assign =>
    intro l x V K hK
    gi_wp2
    exact hK
  case body =>
    rintro l pre x V ⟨hS, hpre⟩ hlen
    have hcr := hS.res.cell
    have hcrf := hS.res.frozen
    have hcw := hS.want.cell
    have hcc := hS.cnt.cell
    have hcf := hS.cnt.frozen
    have hY0 : ∃ y, Hid (L[pre.length]? = some y) := ⟨_, List.getElem?_eq_getElem hlen⟩
    obtain ⟨y, HY⟩ := hY0
    obtain ⟨ad, hA, hx0⟩ := hS.row.2.2 (by omega)
    have hx := hx0 pre.length hlen
    clear hx0
    rw [List.getD_eq_getElem?_getD, HY.out] at hx
    simp only [Option.getD_some] at hx
    have hlt : decide (L.length ≤ pre.length) = false := decide_eq_false (by omega)
    have hl2 : decide ((pre.length : Int) < (L.length : Int)) = true := decide_eq_true (by omega)
    have hw1 : wrap64 ((pre.length : Int) + 1) = ((pre.length + 1 : Nat) : Int) := by unfold wrap64; omega
    have HSV := Lib.hid hS
    have hpl : pre.length < L.length := hlen
    clear hS
    subst hA
    have hlt2 : decide ((L.length : Int) ≤ (pre.length : Int)) = false := decide_eq_false (by omega)
    by_cases hxy : x.1.toList = y.toList
    · have HXY := Lib.hid hxy
      have c0 : (x.1.toList == y.toList) = true := beq_iff_eq.2 hxy
      have c1 : (x.1.toList != y.toList) = false := by rw [bne, c0]; rfl
      have c2 : (!(x.1.toList == y.toList)) = false := by rw [c0]; rfl
      clear hxy
      gi_wp2
      have hs := HSV.out.count (by omega) (by omega) (by omega) (by omega) (fun ad e hn => by have := hAb ad e hn; omega) (pre.length + 1)
      rw [show (((pre.length + 1 : Nat)) : Int) = (pre.length : Int) + 1 from by omega] at hs
      refine ⟨(KeepsOthers.setCell _ _ _).from _, trivial, ?_, ?_⟩
      · rw [List.length_append, List.length_singleton]; exact hs
      · show (pre ++ [x]).map (·.1) <+: L
        rw [List.map_append, List.map_cons, List.map_nil]
        exact (pre_step hpre.out (by rw [List.length_map]; exact HY.out)).2 (ba_inj HXY.out)
    · have c0 : (x.1.toList == y.toList) = false := beq_eq_false_iff_ne.2 hxy
      have c1 : (x.1.toList != y.toList) = true := by rw [bne, c0]; rfl
      have c2 : (!(x.1.toList == y.toList)) = true := by rw [c0]; rfl
      gi_wp2
      exact ⟨(KeepsOthers.setCell _ _ _).from _, Lib.hid fun hp => hxy (by
        rw [List.map_append, List.map_cons, List.map_nil] at hp
        rw [(pre_step hpre.out (by rw [List.length_map]; exact HY.out)).1 hp])⟩
  case done =>
    rintro D ys V hD hys ⟨hS, hpre⟩ hK
    have hyl : ys.length = L.length := by have := congrArg List.length hys; rwa [List.length_map] at this
    rw [hyl] at hS
    have HSV := Lib.hid hS
    have HKD := Lib.hid hK
    have hDl : w4.heap.size + 3 ≤ D := by simp at hD; omega
    have hVD : D < V.heap.size := (Array.getElem?_eq_some_iff.1 hK).1
    clear hS hys hpre hyl hK hD
    gi_wp2_with (refine ⟨trivial, ?_⟩; gi_at_call 13; refine (callsIn_wide.2 (isoglosslaw21_rest.calls _ _ _ _ E5.out)).mono ?_; rintro e w7 ⟨rfl, ⟨nd, rfl⟩⟩; have HSV2 : Hid (SInv w (V.drewN nd) w4.heap.size (w4.heap.size + 1) (w4.heap.size + 1 + 1) A4 c4 L s L.length) := Lib.hid (HSV.out.below (pw_below_drewN (Below.refl _ _) nd)); have HKD2 : Hid ((V.drewN nd).heap[D]? = some (.deferred (some []))) := HKD; have hVD2 : D < (V.drewN nd).heap.size := hVD; generalize V.drewN nd = V2 at HSV2 HKD2 hVD2 ⊢)
    have hM : Marks (w.heap.size + 1) V2 [{ target := .collected D, args := #[] }] := Marks.cons (ds := []) trivial (by omega) HKD2.out (fun d hd => by cases hd)
    have hV2 : w4.heap.size + 2 < V2.heap.size := HSV2.out.cnt.lt
    have HT : Hid (TInv w ((V2.alloc (.cells #[.int .i64 (m : Int)] 3)).alloc (.cells #[.int .i64 0] 3)) V2.heap.size w4.heap.size (w4.heap.size + 1 + 1) A4 c4 L.length m [{ target := .collected D, args := #[] }] 0) := by
      have q0 := Boxed.new V2 3 (.int .i64 (m : Int))
      have q1 := Boxed.new (V2.alloc (.cells #[.int .i64 (m : Int)] 3)) 3 (.int .i64 0)
      simp only [World.size_alloc] at q1
      exact Lib.hid ⟨q0.alloc _, q1, (HSV2.out.res.alloc _).alloc _, (HSV2.out.want.alloc _).alloc _, (HSV2.out.cnt.alloc _).alloc _, (HSV2.out.bel.alloc HSV2.out.bel.size _).alloc (by simp; omega) _, (hM.below ((Below.refl V2.heap.size V2).alloc (Nat.le_refl _) _)).below ((Below.refl _ _).alloc (Nat.le_refl _) _)⟩
    have bS := (HSV2.out.str.alloc (.cells #[.int .i64 (m : Int)] 3)).alloc (.cells #[.int .i64 0] 3)
    clear hM HSV HSV2 HKD HKD2 HS bN hVD
    have hlt2 : ∀ d' ∈ ([{ target := .collected D, args := #[] }] : List Deferred), ∃ q, d' = ({ target := .collected q, args := #[] } : Deferred) ∧ q < ((V2.alloc (.cells #[.int .i64 (m : Int)] 3)).alloc (.cells #[.int .i64 0] 3)).heap.size := fun d hd => ⟨D, by simpa using hd, by simp; omega⟩
    refine wpIn_rangeFunc_ownG (F := Fence.wide) rfl (by decide) (gf := 24) (lb := #[.pointer (some ⟨w4.heap.size + 1, 0, none⟩)]) rfl trivial (enters_of Try.func24 (by kernel_rfl) rfl)
      (seq_stops (3 - 1) (by decide) (w4.heap.size + 1) s k L E4.out _ (by simp; omega) bS.cell) (fun _ _ => trivial) (fun _ _ _ _ _ _ _ _ => trivial) (Below.refl _ _) (fun _ => rfl)
      (fun (pre : List {x // x ∈ L}) W => TInv w W V2.heap.size w4.heap.size (w4.heap.size + 1 + 1) A4 c4 L.length m [{ target := .collected D, args := #[] }] pre.length ∧ Hid (pre.length ≤ m))
      (fun c (pre : List {x // x ∈ L}) W => TInv w W V2.heap.size w4.heap.size (w4.heap.size + 1 + 1) A4 c4 L.length m [{ target := .collected D, args := #[] }] m ∧ Hid (c = .exit 2 ∧ pre.length = m + 1))
      (OwnFrom.and (ownFrom_T (by simp; omega) hlt2 (fun (pre : List {x // x ∈ L}) => pre.length)) (ownFrom_pure _ _))
      (fun c => OwnFrom.and (ownFrom_T (by simp; omega) hlt2 (fun (pre : List {x // x ∈ L}) => m)) (ownFrom_pure _ _))
      ⟨HT.out, Nat.zero_le _⟩
      (fun (x : {x // x ∈ L}) => { tmps := #[.string s, .int .i64 a1, undef, undef, .pointer (some ⟨w.heap.size, 0, none⟩), .bool true, .pointer (some ⟨w4.heap.size, 0, none⟩), .func (.func 24) #[] #[.pointer (some ⟨w4.heap.size + 1, 0, none⟩)], .pointer (some ⟨w4.heap.size + 1 + 1, 0, none⟩), undef, .pointer (some ⟨V2.heap.size, 0, none⟩), .pointer (some ⟨V2.heap.size + 1, 0, none⟩), .bool true, .string a0, .string s, .string s, .slice A4 L.length c4, .string s, .func (.func 24) #[] #[.pointer (some ⟨w4.heap.size + 1, 0, none⟩)], .func (.func 24) #[] #[.pointer (some ⟨w4.heap.size + 1, 0, none⟩)], .bool false, .func (.func 24) #[] #[.pointer (some ⟨w4.heap.size + 1, 0, none⟩)], undef, undef, undef, undef, undef, undef, undef, undef, undef, undef, undef, undef, undef, undef, undef, .int .i64 a1, .int .i64 (m : Int), .func (.func 24) #[] #[.pointer (some ⟨w4.heap.size + 1, 0, none⟩)], .string x.1, undef, undef, undef, undef, undef, undef, undef, undef, undef, undef, undef, undef, undef, undef, undef, undef, undef, undef, undef], defers := [] }) ?assign2 ?body2 ?done2 ?stop2
    case assign2 =>
      intro l x V K hK
      gi_wp2
      exact hK
    case body2 =>
      rintro l pre x V ⟨hT, hpre⟩ hlen
      have hck := hT.k.cell
      have hcg := hT.got.cell
      have hfg := hT.got.frozen
      have HTV := Lib.hid hT
      have hle : pre.length ≤ m := hpre.out
      have hw1 : wrap64 ((pre.length : Int) + 1) = ((pre.length + 1 : Nat) : Int) := by unfold wrap64; omega
      clear hT
      by_cases hm : pre.length = m
      · have c0 : ((pre.length : Int) == (m : Int)) = true := beq_iff_eq.2 (by omega)
        have HM := Lib.hid hm
        clear hm
        gi_wp2
        refine ⟨(KeepsOthers.refl V).from _, ?_, Lib.hid ⟨rfl, ?_⟩⟩
        · have := HTV.out
          rwa [HM.out] at this
        · rw [List.length_append, List.length_singleton, HM.out]
      · have c0 : ((pre.length : Int) == (m : Int)) = false := beq_eq_false_iff_ne.2 (by omega)
        have HM := Lib.hid hm
        clear hm
        gi_wp2
        have hs := HTV.out.step (by omega) (by omega) (by omega) (pre.length + 1)
        refine ⟨(KeepsOthers.setCell _ _ _).from _, trivial, ?_, ?_⟩
        · rw [List.length_append, List.length_singleton]; exact hs
        · show (pre ++ [x]).length ≤ m
          rw [List.length_append, List.length_singleton]
          have := HM.out
          omega
    case done2 =>
      rintro D2 ys V3 hD2 hys ⟨hT, hpre⟩ hK
      have hyl : ys.length = L.length := by have := congrArg List.length hys; rwa [List.length_map] at this
      rw [hyl] at hT
      have hD3 : V2.heap.size + 2 ≤ D2 := by simp at hD2; omega
      have hle : L.length ≤ m := by have := hpre.out; rwa [hyl] at this
      have hM := hT.marks.cons (D := D2) (by omega) hK (fun d hd => ⟨D, by simpa using hd, by omega⟩)
      have HTV := Lib.hid hT
      have HM := Lib.hid hM
      have hck := hT.k.cell
      have hcg := hT.got.cell
      have hcr := hT.res.cell
      have hfr := hT.res.frozen
      have hcw := hT.want.cell
      have hcc := hT.cnt.cell
      clear hT hM hys hyl hpre hK
      gi_wp2
      all_goals
        try rw [show ((L.length : Int) == (m : Int)) = true from beq_iff_eq.2 (by omega)]
        have hbx : Boxed (V3.setCell ⟨w.heap.size, 0, none⟩ (.bool true)) w.heap.size 4 (.bool true) := HTV.out.res.set _
        refine leaves_marks (n₀ := w.heap.size + 1) _ _ (HM.out.keeps (KeepsOthers.setCell _ _ _)) fun W' hb => ?_
        have hbx' : Boxed W' w.heap.size 4 (.bool true) := (hb.block _ (by omega)).trans hbx
        have hcell := hbx'.cell
        exact ⟨.bool true, by simp [results, Try.f3, go_sem, hcell], rfl, (HTV.out.bel.setCell (p := ⟨w.heap.size, 0, none⟩) (by simp) _).trans (hb.mono (by omega))⟩
    case stop2 =>
      rintro D2 c pre V3 hD2 hp ⟨hT, hn⟩ hK
      obtain ⟨rfl, hn⟩ := hn.out
      have hD3 : V2.heap.size + 2 ≤ D2 := by simp at hD2; omega
      have hle : m < L.length := by have := hp.length_le; rw [List.length_map] at this; omega
      have hM := hT.marks.cons (D := D2) (by omega) hK (fun d hd => ⟨D, by simpa using hd, by omega⟩)
      have HTV := Lib.hid hT
      have HM := Lib.hid hM
      have hck := hT.k.cell
      have hcg := hT.got.cell
      have hcr := hT.res.cell
      have hfr := hT.res.frozen
      have hcw := hT.want.cell
      have hcc := hT.cnt.cell
      clear hT hM hp hn hK
      gi_wp2
      all_goals
        try omega
        have hbx : Boxed (V3.setCell ⟨w.heap.size, 0, none⟩ (.bool true)) w.heap.size 4 (.bool true) := HTV.out.res.set _
        refine leaves_marks (n₀ := w.heap.size + 1) _ _ (HM.out.keeps (KeepsOthers.setCell _ _ _)) fun W' hb => ?_
        have hbx' : Boxed W' w.heap.size 4 (.bool true) := (hb.block _ (by omega)).trans hbx
        have hcell := hbx'.cell
        exact ⟨.bool true, by simp [results, Try.f3, go_sem, hcell], rfl, (HTV.out.bel.setCell (p := ⟨w.heap.size, 0, none⟩) (by simp) _).trans (hb.mono (by omega))⟩
  case stop =>
    rintro D c pre W hD hp hn hK
    exact absurd hp hn.out
end

end Go.Proofs.Ytoigdaioghmlpaa.P
