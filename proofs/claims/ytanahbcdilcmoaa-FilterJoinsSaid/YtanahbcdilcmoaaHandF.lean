/- A contract proved by hand: filter.pieces at any test. Condition: the text is shorter than 2^47 bytes. -/
import Derived.Test.YtanahbcdilcmoaaHand1
namespace Go.Proofs.Ytanahbcdilcmoaa.P
open Go.RowKit Go.Shelf Go.Proofs.YtanahbcdilcmoaaW.PrintWords
attribute [local go_sem] Oper.semAt_some
/-- Does a test hold of all pieces? Each of them is asked. -/
def allP (q : Int → ByteArray → Option Bool) : List (Nat × ByteArray) → Option Bool
  | [] => some true
  | x :: l => (q x.1 x.2).bind fun b => (allP q l).bind fun c => some (b && c)
theorem allP_mono {q q' : Int → ByteArray → Option Bool} (h : ∀ a s, LeO (q a s) (q' a s)) : ∀ l, LeO (allP q l) (allP q' l)
  | [] => LeO.refl _
  | x :: l => by
    unfold allP
    exact LeO.bind (h _ _) fun b => LeO.bind (allP_mono h l) fun _ => LeO.refl _
theorem allP_at {q : Int → ByteArray → Option Bool} : ∀ {l : List (Nat × ByteArray)} {r : Bool}, allP q l = some r → (∀ x ∈ l, ∃ b, q x.1 x.2 = some b) ∧ (r = true ↔ ∀ x ∈ l, q x.1 x.2 = some true)
  | [], r, h => by
    unfold allP at h
    obtain rfl := Option.some.inj h
    exact ⟨fun x hx => (by cases hx), by simp⟩
  | x :: l, r, h => by
    unfold allP at h
    obtain ⟨b, hb, h⟩ := Option.bind_eq_some_iff.1 h
    obtain ⟨c, hc, h⟩ := Option.bind_eq_some_iff.1 h
    obtain rfl := Option.some.inj h
    obtain ⟨h1, h2⟩ := allP_at hc
    refine ⟨fun y hy => ?_, ?_⟩
    · rcases List.mem_cons.1 hy with rfl | hy
      · exact ⟨b, hb⟩
      · exact h1 y hy
    · rw [Bool.and_eq_true, h2, List.forall_mem_cons, hb]
      simp
theorem keepsOthers_below {W W' : World} (h : Below W.heap.size W W') : KeepsOthers W W' := ⟨h.size, fun k _ hk _ => (h.block k (Array.getElem?_eq_some_iff.1 hk).1).trans hk⟩
theorem keepsCell_below {B : Nat} {W W' : World} (h : Below W.heap.size W W') : KeepsCell B W W' := fun _ hv => pw_cell_below h hv
theorem boxed_below {W W' : World} {B : Nat} {t : TypeId} {v : Value} (h : Boxed W B t v) (hb : Below W.heap.size W W') : Boxed W' B t v := (hb.block B h.lt).trans h
theorem keepsCell_set {B C : Nat} (W : World) (v : Value) (h : B ≠ C) : KeepsCell B W (W.setCell ⟨C, 0, none⟩ v) := fun u hu => by
  unfold World.cell? at hu ⊢
  rw [Below.heap_setCell W ⟨C, 0, none⟩ v B h]; exact hu
set_option maxRecDepth 100000 in
set_option maxHeartbeats 4000000 in
theorem pieces_calls (g : Nat) (q : Int → ByteArray → Option Bool) (hq : ∀ (at_ : Int) (p : ByteArray) (r : Bool) (W : World), q at_ p = some r → Calls Try.prog g #[.int .i64 at_, .string p] W fun e w' => e = .returned (.bool r) ∧ Below W.heap.size W w')
    (eg : ∀ args w, (callFunc g args).run Try.prog w = .ok (.enter g args) w) (a0 : ByteArray) (hs : a0.size ≤ 140737488355328) (r : Bool) (h : allP q (eachB a0) = some r) (w : World) :
    Calls Try.prog 34 #[.string a0, .func (.func g) #[] #[]] w fun e w' => e = .returned (.bool r) ∧ Below w.heap.size w w' := by
  refine (callsIn_wide (n := 3)).1 ?_
  have HQ := Lib.hid hq
  clear hq
  have H := Lib.hid h
  clear h
  refine callsIn_of_wp_marks Try.func34 rfl trivial ?_ rfl
  simp only [Try.ntmps34, List.size_toArray, List.length_cons, List.length_nil, Nat.reduceAdd, Nat.reduceSub, Array.replicate_succ, Array.replicate_zero, List.push_toArray, List.append_toArray, List.nil_append, List.cons_append]
  gi_wp2_with (refine ⟨trivial, ?_⟩; gi_at_call 42; refine (each_in Fence.wide (3 - 1) trivial rfl _ _).mono ?_; rintro e w' ⟨rfl, rfl⟩)
  have bO := Boxed.new w 42 (.func (.func g) #[] #[])
  have bR := Boxed.new (w.alloc (.cells #[.func (.func g) #[] #[]] 42)) 4 (.bool false)
  have bN := Boxed.new ((w.alloc (.cells #[.func (.func g) #[] #[]] 42)).alloc (.cells #[.bool false] 4)) 9 (.string a0)
  simp only [World.size_alloc] at bR bN
  have hB0 : Below w.heap.size w (((w.alloc (.cells #[.func (.func g) #[] #[]] 42)).alloc (.cells #[.bool false] 4)).alloc (.cells #[.string a0] 9)) := (((Below.refl _ w).alloc (Nat.le_refl _) _).alloc (by simp) _).alloc (by simp; omega) _
  refine wpIn_rangeFunc_ownG (F := Fence.wide) rfl (by decide) (gf := 49) (lb := #[.pointer (some ⟨w.heap.size + 1 + 1, 0, none⟩)]) rfl trivial (enters_of Try.func49 (by kernel_rfl) rfl)
    (each_stops (3 - 1) (by decide) (w.heap.size + 1 + 1) a0 hs _ (by simp) bN.cell) KeepsCell.trans keepsCell_b (Below.refl _ _) (fun _ => rfl)
    (fun (pre : List (Pc a0)) W => (Boxed W w.heap.size 42 (.func (.func g) #[] #[]) ∧ Boxed W (w.heap.size + 1) 4 (.bool false)) ∧ Below w.heap.size w W ∧ Hid (∀ y ∈ pre, q y.1.1 y.1.2 = some true))
    (fun c (pre : List (Pc a0)) W => Boxed W (w.heap.size + 1) 4 (.bool false) ∧ Below w.heap.size w W ∧ Hid (c = .ret ∧ ∃ y ∈ pre, q y.1.1 y.1.2 = some false))
    (OwnFrom.and (OwnFrom.and (Own.from (boxed_own _ _ _) _) (Own.from (boxed_own _ _ _) _)) (OwnFrom.and (ownFrom_below (Nat.le_refl _) (by simp; omega)) (ownFrom_pure _ _)))
    (fun c => OwnFrom.and (Own.from (boxed_own _ _ _) _) (OwnFrom.and (ownFrom_below (Nat.le_refl _) (by simp; omega)) (ownFrom_pure _ _)))
    ⟨⟨(bO.alloc _).alloc _, bR.alloc _⟩, hB0, fun y hy => (by cases hy)⟩
    (fun (x : Pc a0) => { tmps := #[.string a0, .func (.func g) #[] #[], undef, .pointer (some ⟨w.heap.size, 0, none⟩), .pointer (some ⟨w.heap.size + 1, 0, none⟩), .int .i64 (x.1.1 : Int), .string x.1.2, .string a0, .func (.func 49) #[] #[.pointer (some ⟨w.heap.size + 1 + 1, 0, none⟩)], .int .i64 (x.1.1 : Int), .string x.1.2, undef, undef, undef, undef, undef], defers := [] }) ?assign ?body ?done ?stop
  case assign =>
    intro l x W K hK
    gi_wp2
    exact hK
  case body =>
    rintro l pre x W ⟨⟨hO, hR⟩, hB2, hall⟩ hlt
    have hc := hO.cell
    have hr := hR.cell
    have hrf := hR.frozen
    obtain ⟨b, hb⟩ := (allP_at H.out).1 x.1 x.2
    have C := HQ.out _ _ _ W hb
    have HB := Lib.hid hb
    clear hb
    have h1 : 1 ≤ 3 - 1 - 1 := by decide
    cases b with
    | true =>
      gi_wp2_with (refine ⟨trivial, ?_⟩; refine (CallsIn.inRound l (callsIn_wide.2 C)).mono ?_; rintro e w' ⟨rfl, hbw⟩)
      refine ⟨(keepsOthers_below hbw).from _, keepsCell_below hbw, ⟨boxed_below hO hbw, boxed_below hR hbw⟩, below_then hB2 hB2.size hbw, ?_⟩
      show ∀ y ∈ pre ++ [x], q y.1.1 y.1.2 = some true
      intro y hy
      rcases List.mem_append.1 hy with hy | hy
      · exact hall.out y hy
      · rw [List.mem_singleton.1 hy]; exact HB.out
    | false =>
      gi_wp2_with (refine ⟨trivial, ?_⟩; refine (CallsIn.inRound l (callsIn_wide.2 C)).mono ?_; rintro e w' ⟨rfl, hbw⟩; have hr2 := (hbw.cell (p := ⟨w.heap.size + 1, 0, none⟩) hR.lt).trans hr; have hrf2 := (hbw.frozen (p := ⟨w.heap.size + 1, 0, none⟩) hR.lt).trans hrf)
      have hR2 := boxed_below hR hbw
      refine ⟨((keepsOthers_below hbw).trans (KeepsOthers.setCell _ _ _)).from _, hR2.set _, (below_then hB2 hB2.size hbw).setCell (p := ⟨w.heap.size + 1, 0, none⟩) (by simp) _, ?_⟩
      exact ⟨rfl, x, by simp, HB.out⟩
  case done =>
    rintro D ys W hD hys ⟨⟨hO, hR⟩, hB2, hall⟩ hK
    have hr := hR.cell
    have hrf := hR.frozen
    have HY := Lib.hid hys
    clear hys
    gi_wp2
    have hK' := (KeepsOthers.setCell W ⟨w.heap.size + 1, 0, none⟩ (.bool true)).same D _ hK rfl
    refine ⟨by simp, .inl ⟨_, _, rfl, run_takeDeferred hK', ?_⟩⟩
    have hc5 := cell_kept (World.cell?_setCell_same' W ⟨w.heap.size + 1, 0, none⟩ (.bool true) (by rw [hr]; rfl)) (grownBy_putObj' _ D (.deferred none)) (fun r e => by cases e; exact ⟨_, hK', rfl⟩)
    have e : r = true := (allP_at H.out).2.2 (fun z hz => by
      rw [← HY.out] at hz
      obtain ⟨y, hy, rfl⟩ := List.mem_map.1 hz
      exact hall.out y hy)
    refine ⟨.bool true, ?_, by rw [e], (hB2.setCell (p := ⟨w.heap.size + 1, 0, none⟩) (by simp) _).trans (belowK_b (w := w) (Nat.le_refl _) _ D _ _ (by simp at hD; omega) hK' rfl rfl)⟩
    simp [results, Try.f34, go_sem, hc5]
  case stop =>
    rintro D c pre W hD hpre ⟨hR, hB2, hx⟩ hK
    obtain ⟨rfl, hx2⟩ := hx.out
    clear hx
    have HX := Lib.hid hx2
    have HP := Lib.hid hpre
    have hr := hR.cell
    clear hx2 hpre
    gi_wp2
    refine ⟨by simp, .inl ⟨_, _, rfl, run_takeDeferred hK, ?_⟩⟩
    have hc5 := cell_kept hr (grownBy_putObj' _ D (.deferred none)) (fun r e => by cases e; exact ⟨_, hK, rfl⟩)
    have e : r = false := by
      obtain ⟨y, hy, hq⟩ := HX.out
      have hm : y.1 ∈ eachB a0 := y.2
      cases r with
      | false => rfl
      | true =>
        have := (allP_at H.out).2.1 rfl _ hm
        rw [this] at hq; cases hq
    refine ⟨.bool false, ?_, by rw [e], hB2.trans (belowK_b (w := w) (Nat.le_refl _) W D _ _ (by simp at hD; omega) hK rfl rfl)⟩
    simp [results, Try.f34, go_sem, hc5]
end Go.Proofs.Ytanahbcdilcmoaa.P
