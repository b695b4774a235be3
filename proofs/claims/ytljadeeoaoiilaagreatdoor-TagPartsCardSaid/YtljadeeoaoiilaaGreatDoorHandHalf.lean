/- A row of extensions, part of whose rows are the call's own already: how it stands midway in tag.Clone, and what it is at the end. -/
import Derived.Test.YtljadeeoaoiilaaGreatDoorHandTag
namespace Go.Proofs.YtljadeeoaoiilaaGreatDoor.P
open Go.RowKit Go.Shelf Go.Proofs.YtljadeeoaoiilaaGreatDoorW.PrintWords
set_option linter.unusedVariables false
def HalfE (w wr : World) (base : Nat) (ok : Nat → Prop) (v : Value) (l : List S40) (i : Nat) : Prop :=
  (∀ k, v.ownBlock = some k → ok k) ∧ ∃ (inner : List Value) (f : Nat → Nat), wr.ownsRow base 40 2 v l.length inner ∧
    ∀ (j : Nat) (x : S40), l[j]? = some x → ∃ u, (inner.drop (j * 2)).take 2 = [.string x.f0, u] ∧
      (j < i → Kd.R Kd.string 9 wr base (fun k => (ok k ∧ some k ≠ v.ownBlock) ∧ f k = j) u x.f1) ∧
      (i ≤ j → ∃ A c, u = .slice A x.f1.length c ∧ x.f1.length ≤ c ∧ Kd.C Kd.string w A x.f1.length x.f1)
theorem HalfE.done {w wr : World} {base : Nat} {ok : Nat → Prop} {v : Value} {l : List S40} (h : HalfE w wr base ok v l l.length) : Kd.S k40 40 wr base ok v l := by
  obtain ⟨h0, inner, f, ho, hr⟩ := h
  refine ⟨f, h0, inner, by rw [List.length_zipIdx]; exact ho, by rw [List.length_zipIdx]; exact ho.1, fun j p hj => ?_⟩
  rw [List.getElem?_zipIdx] at hj
  obtain ⟨x, hx, rfl⟩ := Option.map_eq_some_iff.1 hj
  obtain ⟨u, he, h1, _⟩ := hr j x hx
  have hl := (List.getElem?_eq_some_iff.1 hx).1
  have hR := h1 hl
  refine ⟨[.string x.f0], [u], ?_, rfl, ⟨u, rfl, ?_⟩⟩
  · exact he
  · exact Kd.R_mono hR (fun k hk => ⟨hk.1, by rw [hk.2]; simp⟩)
theorem R_okS {W : World} {base : Nat} {ok ok1 : Nat → Prop} {v : Value} {xs : List ByteArray} (h : Kd.R Kd.string 9 W base ok1 v xs) (hok : ∀ k, v.ownBlock = some k → ok k) : Kd.R Kd.string 9 W base ok v xs := ⟨hok, h.2.imp_ (fun _ _ hp => hp)⟩
theorem HalfE.start {w wr : World} {base : Nat} {ok ok1 : Nat → Prop} {v : Value} {l : List S40} {rows : List (List Value)} (hn : rows.length = l.length) (hk : ∀ (j : Nat) (x : S40) (r : List Value), l[j]? = some x → rows[j]? = some r → k40.K w x r)
    (h : Kd.R (Kd.raw 2) 40 wr base ok1 v rows) (hok : ∀ k, v.ownBlock = some k → ok k) : HalfE w wr base ok v l 0 := by
  obtain ⟨_, inner, ho, hr⟩ := h
  rw [hn] at ho
  refine ⟨hok, inner, fun _ => 0, ho, fun j x hx => ?_⟩
  have hl := (List.getElem?_eq_some_iff.1 hx).1
  have hj : j < rows.length := by omega
  have hM := hr.2 j _ (List.getElem?_eq_getElem hj)
  have hK := hk j x _ hx (List.getElem?_eq_getElem hj)
  obtain ⟨A1, c1, he, hle, hC⟩ := k40_open hK
  refine ⟨.slice A1 x.f1.length c1, ?_, fun h => absurd h (Nat.not_lt_zero _), fun _ => ⟨A1, c1, rfl, hle, hC⟩⟩
  rw [← he]
  exact hM.1
theorem HalfE.below {w wr w2 : World} {base : Nat} {ok : Nat → Prop} {v : Value} {l : List S40} {i : Nat} (h : HalfE w wr base ok v l i) (hb : Below wr.heap.size wr w2) : HalfE w w2 base ok v l i := by
  obtain ⟨h0, inner, f, ho, hr⟩ := h
  refine ⟨h0, inner, f, pw_own_below ho hb, fun j x hx => ?_⟩
  obtain ⟨u, he, h1, h2⟩ := hr j x hx
  exact ⟨u, he, fun hj => Kd.R_below (h1 hj) hb, h2⟩
theorem two_set (inner : List Value) (i j : Nat) (k u u' : Value) (h : (inner.drop (j * 2)).take 2 = [k, u]) : ((inner.set (i * 2 + 1) u').drop (j * 2)).take 2 = if j = i then [k, u'] else [k, u] := by
  have g0 : inner[j * 2]? = some k := by
    have := congrArg (fun l : List Value => l[0]?) h
    simpa [List.getElem?_take, List.getElem?_drop] using this
  have g1 : inner[j * 2 + 1]? = some u := by
    have := congrArg (fun l : List Value => l[1]?) h
    simpa [List.getElem?_take, List.getElem?_drop] using this
  have hlt := (List.getElem?_eq_some_iff.1 g1).1
  apply List.ext_getElem?
  intro q
  rw [List.getElem?_take]
  by_cases hq : q < 2
  · rw [if_pos hq, List.getElem?_drop, List.getElem?_set]
    by_cases hj : j = i
    · subst hj
      rw [if_pos rfl]
      obtain rfl | rfl : q = 0 ∨ q = 1 := by omega
      · rw [if_neg (by omega)]
        simpa using g0
      · rw [if_pos (by omega), if_pos hlt]
        rfl
    · rw [if_neg hj, if_neg (by omega)]
      obtain rfl | rfl : q = 0 ∨ q = 1 := by omega
      · simpa using g0
      · simpa using g1
  · rw [if_neg hq]
    have : ∀ a b : Value, ([a, b] : List Value)[q]? = none := fun a b => List.getElem?_eq_none (by simp; omega)
    split <;> rw [this]
theorem HalfE.step {w wr w2 : World} {base g n cap i : Nat} {ok : Nat → Prop} {l : List S40} {x : S40} {u : Value} (h : HalfE w wr base ok (.slice (some ⟨g, 0, none⟩) n cap) l i) (hn : n = l.length) (hx : l[i]? = some x) (hbw : base ≤ wr.heap.size) (hf : ∀ k, wr.heap.size ≤ k → ok k)
    (hb : Below wr.heap.size wr w2) (hu : Kd.R Kd.string 9 w2 wr.heap.size (fun _ => True) u x.f1) : HalfE w (w2.setCell ⟨g, i * 2 + 1, none⟩ u) base ok (.slice (some ⟨g, 0, none⟩) n cap) l (i + 1) ∧ w2.grownBy (w2.setCell ⟨g, i * 2 + 1, none⟩ u) (some g) := by
  obtain ⟨h0, inner, f, ho, hr⟩ := h
  subst hn
  have ho2 := pw_own_below ho hb
  obtain ⟨hs, hg⟩ := ho2.stored (i * 2 + 1) u
  rcases ho.2 with ⟨hv, _⟩ | ⟨g', cap', cur, hv, hbg, hgc, _⟩
  · cases hv
  injection hv with e1 e2 e3
  injection e1 with e1
  injection e1 with e1
  subst e1
  have hgs := blk_lt hgc
  have hgc2 := blk_on hgc hb
  refine ⟨⟨h0, inner.set (i * 2 + 1) u, fun k => if k < wr.heap.size then f k else i, hs, fun j y hy => ?_⟩, hg⟩
  obtain ⟨uj, he, h1, h2⟩ := hr j y hy
  have h3 := two_set inner i j _ _ u he
  by_cases hj : j = i
  · subst hj
    obtain rfl : x = y := Option.some.inj (hx.symm.trans hy)
    rw [if_pos rfl] at h3
    refine ⟨u, h3, fun _ => Kd.R_set ?_ hgc2 (by decide) _ _, fun h => absurd h (by omega)⟩
    refine Kd.R_lower (R_okS hu (fun k hk => ?_)) hbw
    have := Kd.R_base hu k hk
    exact ⟨⟨hf k this, by simp [Value.ownBlock]; omega⟩, if_neg (by omega)⟩
  · rw [if_neg hj] at h3
    refine ⟨uj, h3, fun hji => Kd.R_set (Kd.R_below ?_ hb) hgc2 (by decide) _ _, fun h => h2 (by omega)⟩
    have hR := h1 (by omega)
    refine R_okS hR (fun k hk => ⟨(hR.1 k hk).1, ?_⟩)
    have := Kd.R_lt hR k hk
    show (if k < wr.heap.size then f k else i) = j
    rw [if_pos this]
    exact (hR.1 k hk).2
structure Mid (w V : World) (x0 x2 x3 x7 v1 v4 v5 v6 : Value) (zs : Array Value) (l1 l4 l6 : List ByteArray) (l5 : List S40) (i : Nat) : Prop where
  t : V.heap[w.heap.size]? = some (.cells #[x0, v1, x2, x3, v4, v5, v6, x7] 25 (0, 0))
  z : V.heap[w.heap.size + 1]? = some (.cells zs 25 (0, 0))
  r1 : Kd.R Kd.string 9 V w.heap.size (fun k_ => some k_ ≠ v4.ownBlock ∧ some k_ ≠ v6.ownBlock) v1 l1
  r4 : Kd.R Kd.string 9 V w.heap.size (fun k_ => some k_ ≠ v1.ownBlock ∧ some k_ ≠ v6.ownBlock) v4 l4
  r6 : Kd.R Kd.string 9 V w.heap.size (fun k_ => some k_ ≠ v1.ownBlock ∧ some k_ ≠ v4.ownBlock) v6 l6
  e : HalfE w V w.heap.size (fun k_ => some k_ ≠ v1.ownBlock ∧ some k_ ≠ v4.ownBlock ∧ some k_ ≠ v6.ownBlock) v5 l5 i
  b : Below w.heap.size w V
theorem ne_kind {w : World} {g g' : Nat} {t t' : TypeId} {cs cs' : Array Value} (h : w.heap[g]? = some (.cells cs t (0, 0))) (h' : w.heap[g']? = some (.cells cs' t' (0, 0))) (hne : t ≠ t') : g ≠ g' := by
  rintro rfl
  rw [h] at h'
  injection h' with h'
  injection h' with _ h'
  exact hne h'
section
variable {w V V2 : World} {x0 x2 x3 x7 v1 v4 v5 v6 : Value} {zs : Array Value} {l1 l4 l6 : List ByteArray} {l5 : List S40} {i : Nat}
theorem Mid.below (h : Mid w V x0 x2 x3 x7 v1 v4 v5 v6 zs l1 l4 l6 l5 i) (hb : Below V.heap.size V V2) : Mid w V2 x0 x2 x3 x7 v1 v4 v5 v6 zs l1 l4 l6 l5 i :=
  ⟨blk_on h.t hb, blk_on h.z hb, Kd.R_below h.r1 hb, Kd.R_below h.r4 hb, Kd.R_below h.r6 hb, h.e.below hb, below_step h.b hb⟩
theorem Mid.done (h : Mid w V x0 x2 x3 x7 v1 v4 v5 v6 zs l1 l4 l6 l5 l5.length) : OwnT V w.heap.size v1 v4 v5 v6 l1 l4 l5 l6 :=
  ⟨h.r1, h.r4, h.e.done, h.r6⟩
theorem Mid.step {g n cap : Nat} {x : S40} {u : Value} (h : Mid w V x0 x2 x3 x7 v1 v4 (.slice (some ⟨g, 0, none⟩) n cap) v6 zs l1 l4 l6 l5 i) (hn : n = l5.length) (hx : l5[i]? = some x) (hb : Below V.heap.size V V2) (hu : Kd.R Kd.string 9 V2 V.heap.size (fun _ => True) u x.f1) :
    Mid w (V2.setCell ⟨g, i * 2 + 1, none⟩ u) x0 x2 x3 x7 v1 v4 (.slice (some ⟨g, 0, none⟩) n cap) v6 zs l1 l4 l6 l5 (i + 1) := by
  have h2 := h.below hb
  have hs := h.b.size
  obtain ⟨he, hg⟩ := h.e.step hn hx hs (fun k hk => ⟨fun e => absurd (Kd.R_lt h.r1 k e.symm) (by omega), fun e => absurd (Kd.R_lt h.r4 k e.symm) (by omega), fun e => absurd (Kd.R_lt h.r6 k e.symm) (by omega)⟩) hb hu
  obtain ⟨_, inner, f, ho, _⟩ := h2.e
  rcases ho.2 with ⟨hv, _⟩ | ⟨g', cap', cur, hv, hbg, hgc, _⟩
  · cases hv
  injection hv with e1 e2 e3
  injection e1 with e1
  injection e1 with e1
  subst e1
  have n1 : w.heap.size ≠ g := ne_kind h2.t hgc (by decide)
  have n2 : w.heap.size + 1 ≠ g := ne_kind h2.z hgc (by decide)
  exact ⟨blk_far h2.t n1 u, blk_far h2.z n2 u, Kd.R_set h2.r1 hgc (by decide) _ _, Kd.R_set h2.r4 hgc (by decide) _ _, Kd.R_set h2.r6 hgc (by decide) _ _, he, h2.b.setCell (p := ⟨g, i * 2 + 1, none⟩) hbg u⟩
end
theorem HalfE.set {w wr : World} {base : Nat} {ok : Nat → Prop} {v : Value} {l : List S40} {i : Nat} (h : HalfE w wr base ok v l i) {g : Nat} {cells : Array Value} (hb : wr.heap[g]? = some (.cells cells 25 (0, 0))) (j : Nat) (x : Value) : HalfE w (wr.setCell ⟨g, j, none⟩ x) base ok v l i := by
  obtain ⟨h0, inner, f, ho, hr⟩ := h
  have hne : v.ownBlock ≠ some g := by
    rcases ho.2 with ⟨hv, _⟩ | ⟨g', cap', cur, hv, hbg, hgc, _⟩
    · rw [hv]; simp [Value.ownBlock]
    · rw [hv]
      intro he
      injection he with he
      exact ne_kind hgc hb (by decide) he
  refine ⟨h0, inner, f, ownsRow_setCell_other ho (a := ⟨g, j, none⟩) hne x, fun j' y hy => ?_⟩
  obtain ⟨u, he, h1, h2⟩ := hr j' y hy
  exact ⟨u, he, fun hj => Kd.R_set (h1 hj) hb (by decide) _ _, h2⟩
theorem Mid.start {w W0 W1 W2 W3 W4 : World} {x0 x2 x3 x7 y1 y4 y5 y6 v1 v4 v5 v6 : Value} {zs : Array Value} {l1 l4 l6 : List ByteArray} {l5 : List S40} {rows : List (List Value)}
    (b0 : Below w.heap.size w W0) (b1 : Below W0.heap.size W0 W1) (b2 : Below W1.heap.size W1 W2) (b3 : Below W2.heap.size W2 W3) (b4 : Below W3.heap.size W3 W4)
    (r1 : Kd.R Kd.string 9 W1 W0.heap.size (fun _ => True) v1 l1) (r4 : Kd.R Kd.string 9 W2 W1.heap.size (fun _ => True) v4 l4) (r6 : Kd.R Kd.string 9 W3 W2.heap.size (fun _ => True) v6 l6)
    (hn : rows.length = l5.length) (hk : ∀ (j : Nat) (x : S40) (r : List Value), l5[j]? = some x → rows[j]? = some r → k40.K w x r) (r5 : Kd.R (Kd.raw 2) 40 W4 W3.heap.size (fun _ => True) v5 rows)
    (ht : W4.heap[w.heap.size]? = some (.cells #[x0, y1, x2, x3, y4, y5, y6, x7] 25 (0, 0))) (hz : W4.heap[w.heap.size + 1]? = some (.cells zs 25 (0, 0))) :
    Mid w ((((W4.setCell ⟨w.heap.size, 1, none⟩ v1).setCell ⟨w.heap.size, 4, none⟩ v4).setCell ⟨w.heap.size, 6, none⟩ v6).setCell ⟨w.heap.size, 5, none⟩ v5) x0 x2 x3 x7 v1 v4 v5 v6 zs l1 l4 l6 l5 0 := by
  have s0 := b0.size
  have s1 := b1.size
  have s2 := b2.size
  have s3 := b3.size
  have s4 := b4.size
  have g1 := Kd.R_base r1
  have g4 := Kd.R_base r4
  have g6 := Kd.R_base r6
  have g5 := Kd.R_base r5
  have t1 := Kd.R_lt r1
  have t4 := Kd.R_lt r4
  have t6 := Kd.R_lt r6
  have q1 : Kd.R Kd.string 9 W4 w.heap.size (fun k_ => some k_ ≠ v4.ownBlock ∧ some k_ ≠ v6.ownBlock) v1 l1 := Kd.R_lower (R_okS (Kd.R_below (Kd.R_below (Kd.R_below r1 b2) b3) b4) (fun k hk => ⟨fun e => by have := t1 k hk; have := g4 k e.symm; omega, fun e => by have := t1 k hk; have := g6 k e.symm; omega⟩)) (by omega)
  have q4 : Kd.R Kd.string 9 W4 w.heap.size (fun k_ => some k_ ≠ v1.ownBlock ∧ some k_ ≠ v6.ownBlock) v4 l4 := Kd.R_lower (R_okS (Kd.R_below (Kd.R_below r4 b3) b4) (fun k hk => ⟨fun e => by have := g4 k hk; have := t1 k e.symm; omega, fun e => by have := t4 k hk; have := g6 k e.symm; omega⟩)) (by omega)
  have q6 : Kd.R Kd.string 9 W4 w.heap.size (fun k_ => some k_ ≠ v1.ownBlock ∧ some k_ ≠ v4.ownBlock) v6 l6 := Kd.R_lower (R_okS (Kd.R_below r6 b4) (fun k hk => ⟨fun e => by have := g6 k hk; have := t1 k e.symm; omega, fun e => by have := g6 k hk; have := t4 k e.symm; omega⟩)) (by omega)
  have q5 : HalfE w W4 w.heap.size (fun k_ => some k_ ≠ v1.ownBlock ∧ some k_ ≠ v4.ownBlock ∧ some k_ ≠ v6.ownBlock) v5 l5 0 := HalfE.start hn hk (Kd.R_lower r5 (by omega)) (fun k hk => ⟨fun e => by have := g5 k hk; have := t1 k e.symm; omega, fun e => by have := g5 k hk; have := t4 k e.symm; omega, fun e => by have := g5 k hk; have := t6 k e.symm; omega⟩)
  have bw := below_step (below_step (below_step (below_step b0 b1) b2) b3) b4
  have c1 := blk_put (cs' := #[x0, v1, x2, x3, y4, y5, y6, x7]) ht 1 v1 rfl
  have c4 := blk_put (cs' := #[x0, v1, x2, x3, v4, y5, y6, x7]) c1 4 v4 rfl
  have c6 := blk_put (cs' := #[x0, v1, x2, x3, v4, y5, v6, x7]) c4 6 v6 rfl
  have c5 := blk_put (cs' := #[x0, v1, x2, x3, v4, v5, v6, x7]) c6 5 v5 rfl
  have ne : w.heap.size + 1 ≠ w.heap.size := by omega
  exact ⟨c5, blk_far (p := ⟨w.heap.size, 5, none⟩) (blk_far (p := ⟨w.heap.size, 6, none⟩) (blk_far (p := ⟨w.heap.size, 4, none⟩) (blk_far (p := ⟨w.heap.size, 1, none⟩) hz ne v1) ne v4) ne v6) ne v5,
    Kd.R_set (Kd.R_set (Kd.R_set (Kd.R_set q1 ht (by decide) _ _) c1 (by decide) _ _) c4 (by decide) _ _) c6 (by decide) _ _,
    Kd.R_set (Kd.R_set (Kd.R_set (Kd.R_set q4 ht (by decide) _ _) c1 (by decide) _ _) c4 (by decide) _ _) c6 (by decide) _ _,
    Kd.R_set (Kd.R_set (Kd.R_set (Kd.R_set q6 ht (by decide) _ _) c1 (by decide) _ _) c4 (by decide) _ _) c6 (by decide) _ _,
    (((q5.set ht _ _).set c1 _ _).set c4 _ _).set c6 _ _,
    (((bw.setCell (p := ⟨w.heap.size, 1, none⟩) (Nat.le_refl _) v1).setCell (p := ⟨w.heap.size, 4, none⟩) (Nat.le_refl _) v4).setCell (p := ⟨w.heap.size, 6, none⟩) (Nat.le_refl _) v6).setCell (p := ⟨w.heap.size, 5, none⟩) (Nat.le_refl _) v5⟩
end Go.Proofs.YtljadeeoaoiilaaGreatDoor.P
