/- isoglossref06.spoilt, walked by hand: a tag whose rows are the caller's own is turned, its rows stay the caller's own. -/
import Derived.Test.YtejnfbfikadpdaaGreatDoorPx6
import Derived.Lib.Hide
namespace Go.Proofs.YtejnfbfikadpdaaGreatDoor.P
open Go.RowKit Go.Shelf Go.Proofs.YtejnfbfikadpdaaGreatDoorW.PrintWords Go.Proofs.YtejnfbfikadpdaaGreatDoorW.PrintLast Go.Proofs.YtejnfbfikadpdaaGreatDoorW.PrintMore
attribute [local go_sem] Oper.semAt_some
set_option linter.unusedVariables false
set_option linter.unusedSimpArgs false
def OwnT (w : World) (base : Nat) (v1 v4 v5 v6 : Value) (l1 l4 : List ByteArray) (l5 : List S47) (l6 : List ByteArray) : Prop :=
  Kd.R Kd.string 9 w base (fun k_ => some k_ ≠ v4.ownBlock ∧ some k_ ≠ v6.ownBlock) v1 l1 ∧
  Kd.R Kd.string 9 w base (fun k_ => some k_ ≠ v1.ownBlock ∧ some k_ ≠ v6.ownBlock) v4 l4 ∧
  Kd.S k47 47 w base (fun k_ => some k_ ≠ v1.ownBlock ∧ some k_ ≠ v4.ownBlock ∧ some k_ ≠ v6.ownBlock) v5 l5 ∧
  Kd.R Kd.string 9 w base (fun k_ => some k_ ≠ v1.ownBlock ∧ some k_ ≠ v4.ownBlock) v6 l6
theorem OwnT.below {w W : World} {base : Nat} {v1 v4 v5 v6 : Value} {l1 l4 : List ByteArray} {l5 : List S47} {l6 : List ByteArray} (h : OwnT w base v1 v4 v5 v6 l1 l4 l5 l6) (hb : Below w.heap.size w W) : OwnT W base v1 v4 v5 v6 l1 l4 l5 l6 :=
  ⟨Kd.R_below h.1 hb, Kd.R_below h.2.1 hb, Kd.S_below h.2.2.1 hb, Kd.R_below h.2.2.2 hb⟩
theorem two_blocks (w : World) (cs zs : Array Value) (t : TypeId) : ((w.alloc (.cells cs t)).alloc (.cells zs t)).heap[w.heap.size]? = some (.cells cs t (0, 0)) ∧ ((w.alloc (.cells cs t)).alloc (.cells zs t)).heap[w.heap.size + 1]? = some (.cells zs t (0, 0)) := by
  constructor
  · show ((w.heap.push _).push _)[w.heap.size]? = _
    simp [Array.getElem?_push]
  · show ((w.heap.push (.cells cs t)).push (.cells zs t))[w.heap.size + 1]? = _
    rw [show w.heap.size + 1 = (w.heap.push (.cells cs t)).size by rw [Array.size_push]]
    exact Array.getElem?_push_size
section
variable {P : Program} {ops : Array Oper} {rest : List Oper} {o : Oper} {a : Act} {Q : Exit → Act → World → Prop}
theorem append_many {w0 W : World} (base : Nat) (hgd : o.guard = none) (s x : Operand) (t e : TypeId) (z : Value) (size bytes m : Nat)
    (ho : o.op = .call { callee := .builtin .append, args := #[s, x], argTypes := #[t, t] })
    (ht : P.underlying t = some (.slice e)) (hinfo : (P.info? e).map (fun i => (i.zero, i.size, i.bytes)) = some (some z, size, bytes)) (hz : z.cells.size = size) (hs0 : 0 < size) (hb0 : 0 < bytes)
    (v : Value) (n : Nat) (xs ys : List Value) (hs : a.eval s = v) (hx : a.eval x = .slice (some ⟨W.heap.size, 0, none⟩) m m) (hys : ys.length = m * size) (h1 : ∀ u ∈ ys, u.oneCell' = true)
    (HO : W.ownsRow base e size v n xs) (HB : Below base w0 W) (hbase : base ≤ W.heap.size) (hl : (n + m) * bytes ≤ 140737488355328)
    (h : ∀ v1 w1, w1.ownsRow base e size v1 (n + m) (xs ++ ys) → Below base w0 w1 → W.grownBy w1 v.ownBlock → (v1.ownBlock = v.ownBlock ∨ ∃ b, v1.ownBlock = some b ∧ W.heap.size ≤ b) → wpList P ops Q rest (a.put o.dst v1) w1) :
    wpList P ops Q (o :: rest) a (W.alloc (.cells ys.toArray e)) := by
  obtain ⟨i0, hi, hzz⟩ := Option.map_eq_some_iff.1 hinfo
  simp only [Prod.mk.injEq] at hzz
  obtain ⟨hz0, hz1, hz2⟩ := hzz
  have hlen : n + m ≤ 140737488355328 := Nat.le_trans (Nat.le_mul_of_pos_right _ hb0) hl
  refine wpList_append_own_at (W.alloc (.cells ys.toArray e)) hgd s x t ho base e i0 z size bytes ht hi hz0 hz1 hz2 hz hs0 v n xs hs (HO.alloc _) ⟨W.heap.size, 0, none⟩ m m ys hx hys
    (by simpa using World.news_of_block (cs := ys.toArray) (t := e) (fr := (0, 0)) (heap_alloc_new W (.cells ys.toArray e))) h1 (by simp only [maxLen]; omega) hl (by simp; omega) ?_
  intro v1 w1 hown hg _ hat
  refine h v1 w1 hown ((HB.alloc hbase _).grown hg (by simp; omega) (own_base HO)) (World.grownBy.trans (World.grownBy_alloc W _ _) hg) ?_
  rcases hat with hat | hat
  · exact .inl hat
  · exact .inr ⟨_, hat, by simp⟩
end
theorem R_appended2 {α : Type} {d : Kd α} {e base : Nat} {ok okp okq : Nat → Prop} {W w1 : World} {v v1 : Value} {xs : List α} {p q : α} {inner cs ds : List Value} (h0 : ∀ k, v.ownBlock = some k → ok k) (hr : Reps (d.M W base (fun k => ok k ∧ some k ≠ v.ownBlock)) d.sz xs inner)
    (hp : d.M W base okp p cs) (hokp : ∀ k, okp k → ok k ∧ some k ≠ v.ownBlock) (hq : d.M W base okq q ds) (hokq : ∀ k, okq k → ok k ∧ some k ≠ v.ownBlock) (hfresh : ∀ k, W.heap.size ≤ k → ok k)
    (hown : w1.ownsRow base e d.sz v1 (xs.length + 2) (inner ++ (cs ++ ds))) (hg : W.grownBy w1 v.ownBlock) (hat : v1.ownBlock = v.ownBlock ∨ ∃ b, v1.ownBlock = some b ∧ W.heap.size ≤ b) : d.R e w1 base ok v1 (xs ++ [p, q]) := by
  have hne : ∀ k, some k ≠ v.ownBlock → k < W.heap.size → some k ≠ v1.ownBlock := by
    intro k hk hlt
    rcases hat with hat | ⟨b, hb, hle⟩
    · rw [hat]; exact hk
    · rw [hb]
      intro he
      injection he with he
      omega
  have step : ∀ {q : α} {c : List Value} {o : Nat → Prop}, d.M W base o q c → (∀ k, o k → ok k ∧ some k ≠ v.ownBlock) → d.M w1 base (fun k => ok k ∧ some k ≠ v1.ownBlock) q c := by
    intro q c o hq ho
    have h1 := d.M_move (w1 := w1) (fun k hk => hg.block k hk.2.2.1 (ho k hk.1).2) (d.M_bound hq)
    exact d.M_mono (fun k hk => ⟨(ho k hk.1).1, hne k (ho k hk.1).2 hk.2.2.1⟩) h1
  refine ⟨fun k hk => ?_, inner ++ (cs ++ ds), by rw [List.length_append]; exact hown, ?_⟩
  · rcases hat with hat | ⟨b, hb, hle⟩
    · exact h0 k (hat ▸ hk)
    · rw [hb] at hk
      injection hk with hk
      exact hfresh k (by omega)
  · have := ((hr.imp_ (fun _ _ hq => step hq (fun _ hk => hk))).snoc (step hp hokp) (d.K_len (d.K_of_M hp))).snoc (step hq hokq) (d.K_len (d.K_of_M hq))
    rwa [List.append_assoc, List.append_assoc] at this
open Classical in
theorem S_append2 {α : Type} {d : Kd α} {e base : Nat} {ok okp okq : Nat → Prop} {W : World} {v : Value} {xs : List α} {p q : α} {cs ds : List Value} (HO : Kd.S d e W base (fun k => ok k ∧ ¬ okp k ∧ ¬ okq k) v xs)
    (hp : d.M W base okp p cs) (hokp : ∀ k, okp k → ok k ∧ some k ≠ v.ownBlock) (hq : d.M W base okq q ds) (hokq : ∀ k, okq k → ok k ∧ some k ≠ v.ownBlock) (hpq : ∀ k, okq k → ¬ okp k) (hfresh : ∀ k, W.heap.size ≤ k → ok k) :
    ∃ inner, W.ownsRow base e d.sz v xs.length inner ∧ ∀ u w1, w1.ownsRow base e d.sz u (xs.length + 2) (inner ++ (cs ++ ds)) → W.grownBy w1 v.ownBlock → (u.ownBlock = v.ownBlock ∨ ∃ b, u.ownBlock = some b ∧ W.heap.size ≤ b) → Kd.S d e w1 base ok u (xs ++ [p, q]) := by
  obtain ⟨f, hR⟩ := HO
  have hR2 : (Kd.tag (fun k => if okp k then xs.length else if okq k then xs.length + 1 else f k) d).R e W base (fun k => ok k ∧ ¬ okp k ∧ ¬ okq k) v xs.zipIdx :=
    Kd.R_tag hR (fun k hk _ => by show (if okp k then _ else _) = _; rw [if_neg hk.2.1, if_neg hk.2.2])
  obtain ⟨h0, inner, ho, hr⟩ := Kd.R_mono hR2 (fun _ hk => hk.1)
  have hl : xs.zipIdx.length = xs.length := List.length_zipIdx
  refine ⟨inner, by rw [hl] at ho; exact ho, fun u w1 hown hg hat => ⟨fun k => if okp k then xs.length else if okq k then xs.length + 1 else f k, ?_⟩⟩
  have hz : (xs ++ [p, q]).zipIdx = xs.zipIdx ++ [(p, xs.length), (q, xs.length + 1)] := by
    rw [List.zipIdx_append]; simp
  rw [hz]
  refine R_appended2 (okp := okp) (okq := okq) (cs := cs) (ds := ds) h0 hr (d.M_mono (fun k hk => ⟨hk, if_pos hk⟩) hp) hokp (d.M_mono (fun k hk => ⟨hk, (if_neg (hpq k hk)).trans (if_pos hk)⟩) hq) hokq hfresh ?_ hg hat
  rw [hl]
  exact hown
theorem lit_row (W : World) (base : Nat) (hb : base ≤ W.heap.size) (s : ByteArray) : Kd.R Kd.string 9 (W.alloc (.cells #[.string s] 9)) base (fun k => k = W.heap.size) (.slice (some ⟨W.heap.size, 0, none⟩) 1 1) [s] :=
  Kd.R_of_own (enc := Value.string) (World.ownsRow_lit (e := 9) (size := 1) W #[.string s] 1 hb (by decide) rfl) (fun k hk => (Option.some.inj hk).symm)
theorem keep8 {k g : Nat} (h : k ≠ g) (W : World) (u0 u1 u2 u3 u4 u5 u6 u7 : Value) :
    ((((((((W.setCell ⟨g, 0, none⟩ u0).setCell ⟨g, 1, none⟩ u1).setCell ⟨g, 2, none⟩ u2).setCell ⟨g, 3, none⟩ u3).setCell ⟨g, 4, none⟩ u4).setCell ⟨g, 5, none⟩ u5).setCell ⟨g, 6, none⟩ u6).setCell ⟨g, 7, none⟩ u7).heap[k]? = W.heap[k]? := by
  rw [Below.heap_setCell _ _ _ k h, Below.heap_setCell _ _ _ k h, Below.heap_setCell _ _ _ k h, Below.heap_setCell _ _ _ k h, Below.heap_setCell _ _ _ k h, Below.heap_setCell _ _ _ k h, Below.heap_setCell _ _ _ k h, Below.heap_setCell _ _ _ k h]
theorem own_fresh {W : World} {base : Nat} {u v x : Value} {e : Nat} {ok : Nat → Prop} {α : Type} {d : Kd α} {l : List α} (hx : d.R e W base ok x l) (hat : u.ownBlock = v.ownBlock ∨ ∃ b, u.ownBlock = some b ∧ W.heap.size ≤ b) (hv : ∀ k, v.ownBlock = some k → some k ≠ x.ownBlock) : ∀ k, u.ownBlock = some k → some k ≠ x.ownBlock := by
  intro k hk
  rcases hat with h1 | ⟨b, h1, h2⟩
  · exact hv k (h1.symm.trans hk)
  · have e : b = k := Option.some.inj (h1.symm.trans hk)
    subst e
    exact fun e => absurd (Kd.R_lt hx _ e.symm) (by omega)
theorem OwnT.app4 {W w1 : World} {base : Nat} {v1 v4 v5 v6 u : Value} {l1 l4 l : List ByteArray} {l5 : List S47} {l6 : List ByteArray} (h : OwnT W base v1 v4 v5 v6 l1 l4 l5 l6) (hg : W.grownBy w1 v4.ownBlock) (hat : u.ownBlock = v4.ownBlock ∨ ∃ b, u.ownBlock = some b ∧ W.heap.size ≤ b) (hown : w1.ownsRow base 9 1 u l.length (encs Value.string l)) : OwnT w1 base v1 u v5 v6 l1 l l5 l6 := by
  obtain ⟨h1, h4, h5, h6⟩ := h
  have g1 := Kd.R_after (ok := fun k_ => some k_ ≠ v6.ownBlock) (Kd.R_mono h1 (fun _ h => ⟨h.2, h.1⟩)) hg hat
  have g5 := Kd.S_after (ok := fun k_ => some k_ ≠ v1.ownBlock ∧ some k_ ≠ v6.ownBlock) (Kd.S_mono h5 (fun _ h => ⟨⟨h.1, h.2.2⟩, h.2.1⟩)) hg hat
  have g6 := Kd.R_after (ok := fun k_ => some k_ ≠ v1.ownBlock) h6 hg hat
  refine ⟨Kd.R_mono g1 (fun _ h => ⟨h.2, h.1⟩), Kd.R_of_own (enc := Value.string) hown (fun k hk => ?_), Kd.S_mono g5 (fun _ h => ⟨h.1.1, h.2, h.1.2⟩), g6⟩
  exact ⟨own_fresh h1 hat (fun k hk => (h4.1 k hk).1) k hk, own_fresh h6 hat (fun k hk => (h4.1 k hk).2) k hk⟩
theorem OwnT.app6 {W w1 : World} {base : Nat} {v1 v4 v5 v6 u : Value} {l1 l4 l : List ByteArray} {l5 : List S47} {l6 : List ByteArray} (h : OwnT W base v1 v4 v5 v6 l1 l4 l5 l6) (hg : W.grownBy w1 v6.ownBlock) (hat : u.ownBlock = v6.ownBlock ∨ ∃ b, u.ownBlock = some b ∧ W.heap.size ≤ b) (hown : w1.ownsRow base 9 1 u l.length (encs Value.string l)) : OwnT w1 base v1 v4 v5 u l1 l4 l5 l := by
  obtain ⟨h1, h4, h5, h6⟩ := h
  have g1 := Kd.R_after (ok := fun k_ => some k_ ≠ v4.ownBlock) h1 hg hat
  have g4 := Kd.R_after (ok := fun k_ => some k_ ≠ v1.ownBlock) h4 hg hat
  have g5 := Kd.S_after (ok := fun k_ => some k_ ≠ v1.ownBlock ∧ some k_ ≠ v4.ownBlock) (Kd.S_mono h5 (fun _ h => ⟨⟨h.1, h.2.1⟩, h.2.2⟩)) hg hat
  refine ⟨g1, g4, Kd.S_mono g5 (fun _ h => ⟨h.1.1, h.1.2, h.2⟩), Kd.R_of_own (enc := Value.string) hown (fun k hk => ?_)⟩
  exact ⟨own_fresh h1 hat (fun k hk => (h6.1 k hk).1) k hk, own_fresh h4 hat (fun k hk => (h6.1 k hk).2) k hk⟩
theorem OwnT.app5 {W w1 : World} {base : Nat} {v1 v4 v5 v6 u : Value} {l1 l4 : List ByteArray} {l5 l : List S47} {l6 : List ByteArray} (h : OwnT W base v1 v4 v5 v6 l1 l4 l5 l6) (hg : W.grownBy w1 v5.ownBlock) (hs : Kd.S k47 47 w1 base (fun k_ => some k_ ≠ v1.ownBlock ∧ some k_ ≠ v4.ownBlock ∧ some k_ ≠ v6.ownBlock) u l) : OwnT w1 base v1 v4 u v6 l1 l4 l l6 := by
  obtain ⟨h1, h4, h5, h6⟩ := h
  have ty := Kd.S_typed h5
  refine ⟨Kd.R_over' h1 ty (by decide) hg, Kd.R_over' h4 ty (by decide) hg, hs, Kd.R_over' h6 ty (by decide) hg⟩
theorem put8 {w : World} {g : Nat} {t : TypeId} {z0 z1 z2 z3 z4 z5 z6 z7 : Value} (h : w.heap[g]? = some (.cells #[z0, z1, z2, z3, z4, z5, z6, z7] t (0, 0))) (u0 u1 u2 u3 u4 u5 u6 u7 : Value) :
    ((((((((w.setCell ⟨g, 0, none⟩ u0).setCell ⟨g, 1, none⟩ u1).setCell ⟨g, 2, none⟩ u2).setCell ⟨g, 3, none⟩ u3).setCell ⟨g, 4, none⟩ u4).setCell ⟨g, 5, none⟩ u5).setCell ⟨g, 6, none⟩ u6).setCell ⟨g, 7, none⟩ u7).heap[g]? = some (.cells #[u0, u1, u2, u3, u4, u5, u6, u7] t (0, 0)) := by
  have b0 := blk_put (cs' := #[u0, z1, z2, z3, z4, z5, z6, z7]) h 0 u0 rfl
  have b1 := blk_put (cs' := #[u0, u1, z2, z3, z4, z5, z6, z7]) b0 1 u1 rfl
  have b2 := blk_put (cs' := #[u0, u1, u2, z3, z4, z5, z6, z7]) b1 2 u2 rfl
  have b3 := blk_put (cs' := #[u0, u1, u2, u3, z4, z5, z6, z7]) b2 3 u3 rfl
  have b4 := blk_put (cs' := #[u0, u1, u2, u3, u4, z5, z6, z7]) b3 4 u4 rfl
  have b5 := blk_put (cs' := #[u0, u1, u2, u3, u4, u5, z6, z7]) b4 5 u5 rfl
  have b6 := blk_put (cs' := #[u0, u1, u2, u3, u4, u5, u6, z7]) b5 6 u6 rfl
  have b7 := blk_put (cs' := #[u0, u1, u2, u3, u4, u5, u6, u7]) b6 7 u7 rfl
  exact b7
theorem below8 {B : Nat} {w W : World} {g : Nat} (h : Below B w W) (hg : B ≤ g) (u0 u1 u2 u3 u4 u5 u6 u7 : Value) :
    Below B w ((((((((W.setCell ⟨g, 0, none⟩ u0).setCell ⟨g, 1, none⟩ u1).setCell ⟨g, 2, none⟩ u2).setCell ⟨g, 3, none⟩ u3).setCell ⟨g, 4, none⟩ u4).setCell ⟨g, 5, none⟩ u5).setCell ⟨g, 6, none⟩ u6).setCell ⟨g, 7, none⟩ u7) :=
  (((((((h.setCell hg u0).setCell hg u1).setCell hg u2).setCell hg u3).setCell hg u4).setCell hg u5).setCell hg u6).setCell hg u7
theorem OwnT.set {W : World} {base : Nat} {v1 v4 v5 v6 : Value} {l1 l4 : List ByteArray} {l5 : List S47} {l6 : List ByteArray} (h : OwnT W base v1 v4 v5 v6 l1 l4 l5 l6) {g : Nat} {cells : Array Value} (hb : W.heap[g]? = some (.cells cells 29 (0, 0))) (j : Nat) (u : Value) : OwnT (W.setCell ⟨g, j, none⟩ u) base v1 v4 v5 v6 l1 l4 l5 l6 :=
  ⟨Kd.R_set h.1 hb (by decide) j u, Kd.R_set h.2.1 hb (by decide) j u, Kd.S_set h.2.2.1 hb (by decide) j u, Kd.R_set h.2.2.2 hb (by decide) j u⟩
theorem OwnT.set8 {w : World} {base : Nat} {v1 v4 v5 v6 : Value} {l1 l4 : List ByteArray} {l5 : List S47} {l6 : List ByteArray} (o : OwnT w base v1 v4 v5 v6 l1 l4 l5 l6) {g : Nat} {z0 z1 z2 z3 z4 z5 z6 z7 : Value} (h : w.heap[g]? = some (.cells #[z0, z1, z2, z3, z4, z5, z6, z7] 29 (0, 0))) (u0 u1 u2 u3 u4 u5 u6 u7 : Value) :
    OwnT ((((((((w.setCell ⟨g, 0, none⟩ u0).setCell ⟨g, 1, none⟩ u1).setCell ⟨g, 2, none⟩ u2).setCell ⟨g, 3, none⟩ u3).setCell ⟨g, 4, none⟩ u4).setCell ⟨g, 5, none⟩ u5).setCell ⟨g, 6, none⟩ u6).setCell ⟨g, 7, none⟩ u7) base v1 v4 v5 v6 l1 l4 l5 l6 := by
  have b0 := blk_set h 0 u0
  have b1 := blk_set b0 1 u1
  have b2 := blk_set b1 2 u2
  have b3 := blk_set b2 3 u3
  have b4 := blk_set b3 4 u4
  have b5 := blk_set b4 5 u5
  have b6 := blk_set b5 6 u6
  exact (((((((o.set h 0 u0).set b0 1 u1).set b1 2 u2).set b2 3 u3).set b3 4 u4).set b4 5 u5).set b5 6 u6).set b6 7 u7
set_option maxRecDepth 100000 in
set_option maxHeartbeats 4000000 in
theorem spoilt_9 (x0 x2 x3 x7 : ByteArray) (A1 : Option Addr) (n1 c1 : Nat) (A4 : Option Addr) (n4 c4 : Nat) (A5 : Option Addr) (n5 c5 : Nat) (A6 : Option Addr) (n6 c6 : Nat) (a1 : Int) (w : World) (q1 : (a1 == 1) = false) (q2 : (a1 == 2) = false) (q3 : (a1 == 3) = false) (q4 : (a1 == 4) = false) (q5 : (a1 == 5) = false) (q6 : (a1 == 6) = false) (q7 : (a1 == 7) = false) (q8 : (a1 == 8) = false) :
    Calls Tryz.prog 38 #[.agg #[.string x0, .slice A1 n1 c1, .string x2, .string x3, .slice A4 n4 c4, .slice A5 n5 c5, .slice A6 n6 c6, .string x7], .int .i64 a1] w fun e w' => e = .returned (.agg #[.string x0, .slice A1 n1 c1, .string x2, .string x3, .slice A4 n4 c4, .slice A5 n5 c5, .slice A6 n6 c6, .string x7]) ∧ Below w.heap.size w w' := by
  go_enter Tryz.func38, Tryz.ntmps38
  go_wp2
  exact bodyPost_ret (v := .agg #[.string x0, .slice A1 n1 c1, .string x2, .string x3, .slice A4 n4 c4, .slice A5 n5 c5, .slice A6 n6 c6, .string x7]) (by simp [results, Tryz.results38, go_sem]) rfl ⟨rfl, ((Below.refl _ _).alloc (Nat.le_refl _) _).alloc (by simp) _⟩
set_option maxRecDepth 100000 in
set_option maxHeartbeats 4000000 in
theorem spoilt_4 (x0 x2 x3 x7 : ByteArray) (A1 : Option Addr) (n1 c1 : Nat) (A4 : Option Addr) (n4 c4 : Nat) (A5 : Option Addr) (n5 c5 : Nat) (A6 : Option Addr) (n6 c6 : Nat) (a1 : Int) (w : World) (q1 : (a1 == 1) = false) (q2 : (a1 == 2) = false) (q3 : (a1 == 3) = false) (q4 : (a1 == 4) = true) :
    Calls Tryz.prog 38 #[.agg #[.string x0, .slice A1 n1 c1, .string x2, .string x3, .slice A4 n4 c4, .slice A5 n5 c5, .slice A6 n6 c6, .string x7], .int .i64 a1] w fun e w' => e = .returned (.agg #[.string x0, .slice A1 n1 c1, .string ⟨#[108, 97, 116]⟩, .string x3, .slice A4 n4 c4, .slice A5 n5 c5, .slice A6 n6 c6, .string x7]) ∧ Below w.heap.size w w' := by
  go_enter Tryz.func38, Tryz.ntmps38
  go_wp2
  exact bodyPost_ret (v := .agg #[.string x0, .slice A1 n1 c1, .string ⟨#[108, 97, 116]⟩, .string x3, .slice A4 n4 c4, .slice A5 n5 c5, .slice A6 n6 c6, .string x7]) (by simp [results, Tryz.results38, go_sem]) rfl ⟨rfl, ((Below.refl _ _).alloc (Nat.le_refl _) _).alloc (by simp) _⟩
set_option maxRecDepth 100000 in
set_option maxHeartbeats 4000000 in
theorem spoilt_5 (x0 x2 x3 x7 : ByteArray) (A1 : Option Addr) (n1 c1 : Nat) (A4 : Option Addr) (n4 c4 : Nat) (A5 : Option Addr) (n5 c5 : Nat) (A6 : Option Addr) (n6 c6 : Nat) (a1 : Int) (w : World) (q1 : (a1 == 1) = false) (q2 : (a1 == 2) = false) (q3 : (a1 == 3) = false) (q4 : (a1 == 4) = false) (q5 : (a1 == 5) = true) :
    Calls Tryz.prog 38 #[.agg #[.string x0, .slice A1 n1 c1, .string x2, .string x3, .slice A4 n4 c4, .slice A5 n5 c5, .slice A6 n6 c6, .string x7], .int .i64 a1] w fun e w' => e = .returned (.agg #[.string x0, .slice A1 n1 c1, .string x2, .string x3, .slice A4 n4 c4, .slice A5 n5 c5, .slice A6 n6 c6, .string ⟨#[105, 45, 97, 109, 105]⟩]) ∧ Below w.heap.size w w' := by
  go_enter Tryz.func38, Tryz.ntmps38
  go_wp2
  exact bodyPost_ret (v := .agg #[.string x0, .slice A1 n1 c1, .string x2, .string x3, .slice A4 n4 c4, .slice A5 n5 c5, .slice A6 n6 c6, .string ⟨#[105, 45, 97, 109, 105]⟩]) (by simp [results, Tryz.results38, go_sem]) rfl ⟨rfl, ((Below.refl _ _).alloc (Nat.le_refl _) _).alloc (by simp) _⟩
set_option maxRecDepth 100000 in
set_option maxHeartbeats 4000000 in
theorem spoilt_8 (x0 x2 x3 x7 : ByteArray) (A1 : Option Addr) (n1 c1 : Nat) (A4 : Option Addr) (n4 c4 : Nat) (A5 : Option Addr) (n5 c5 : Nat) (A6 : Option Addr) (n6 c6 : Nat) (a1 : Int) (w : World) (q1 : (a1 == 1) = false) (q2 : (a1 == 2) = false) (q3 : (a1 == 3) = false) (q4 : (a1 == 4) = false) (q5 : (a1 == 5) = false) (q6 : (a1 == 6) = false) (q7 : (a1 == 7) = false) (q8 : (a1 == 8) = true) :
    Calls Tryz.prog 38 #[.agg #[.string x0, .slice A1 n1 c1, .string x2, .string x3, .slice A4 n4 c4, .slice A5 n5 c5, .slice A6 n6 c6, .string x7], .int .i64 a1] w fun e w' => e = .returned (.agg #[.string ⟨#[]⟩, .slice A1 n1 c1, .string x2, .string x3, .slice A4 n4 c4, .slice A5 n5 c5, .slice A6 n6 c6, .string x7]) ∧ Below w.heap.size w w' := by
  go_enter Tryz.func38, Tryz.ntmps38
  go_wp2
  exact bodyPost_ret (v := .agg #[.string ⟨#[]⟩, .slice A1 n1 c1, .string x2, .string x3, .slice A4 n4 c4, .slice A5 n5 c5, .slice A6 n6 c6, .string x7]) (by simp [results, Tryz.results38, go_sem]) rfl ⟨rfl, ((Below.refl _ _).alloc (Nat.le_refl _) _).alloc (by simp) _⟩
set_option maxRecDepth 100000 in
set_option maxHeartbeats 4000000 in
theorem spoilt_2 (k : Nat) (x0 x2 x3 x7 : ByteArray) (A1 : Option Addr) (n1 c1 : Nat) (A4 : Option Addr) (n4 c4 : Nat) (A5 : Option Addr) (n5 c5 : Nat) (A6 : Option Addr) (n6 c6 : Nat) (r : ByteArray) (a1 : Int) (w : World) (q1 : (a1 == 1) = false) (q2 : (a1 == 2) = true) (h : r2_Title.f k x0 = some r) :
    Calls Tryz.prog 38 #[.agg #[.string x0, .slice A1 n1 c1, .string x2, .string x3, .slice A4 n4 c4, .slice A5 n5 c5, .slice A6 n6 c6, .string x7], .int .i64 a1] w fun e w' => e = .returned (.agg #[.string r, .slice A1 n1 c1, .string x2, .string x3, .slice A4 n4 c4, .slice A5 n5 c5, .slice A6 n6 c6, .string x7]) ∧ Below w.heap.size w w' := by
  have HH := Lib.hid h
  clear h
  go_enter Tryz.func38, Tryz.ntmps38
  go_wp2_with (go_at_call 66; (with_reducible refine (r2_Title.calls k x0 r _ HH.out).mono ?_); rintro e w2 ⟨rfl, hb⟩; have BS : w2.heap[w.heap.size]? = some (.cells #[.string x0, .slice A1 n1 c1, .string x2, .string x3, .slice A4 n4 c4, .slice A5 n5 c5, .slice A6 n6 c6, .string x7] 29 (0, 0)) := (hb.block _ (by first | (simp; done) | (simp; omega))).trans (two_blocks w _ _ _).1; have BZ : w2.heap[w.heap.size + 1]? = some (.cells #[.string (⟨#[]⟩ : ByteArray), .slice none 0 0, .string (⟨#[]⟩ : ByteArray), .string (⟨#[]⟩ : ByteArray), .slice none 0 0, .slice none 0 0, .slice none 0 0, .string (⟨#[]⟩ : ByteArray)] 29 (0, 0)) := (hb.block _ (by first | (simp; done) | (simp; omega))).trans (two_blocks w _ _ _).2; have s0 := (blk_cell BS 0).trans rfl; have sf0 := blk_frozen BS 0; have z0 := (blk_cell BZ 0).trans rfl; have zf0 := blk_frozen BZ 0; have s1 := (blk_cell BS 1).trans rfl; have sf1 := blk_frozen BS 1; have z1 := (blk_cell BZ 1).trans rfl; have zf1 := blk_frozen BZ 1; have s2 := (blk_cell BS 2).trans rfl; have sf2 := blk_frozen BS 2; have z2 := (blk_cell BZ 2).trans rfl; have zf2 := blk_frozen BZ 2; have s3 := (blk_cell BS 3).trans rfl; have sf3 := blk_frozen BS 3; have z3 := (blk_cell BZ 3).trans rfl; have zf3 := blk_frozen BZ 3; have s4 := (blk_cell BS 4).trans rfl; have sf4 := blk_frozen BS 4; have z4 := (blk_cell BZ 4).trans rfl; have zf4 := blk_frozen BZ 4; have s5 := (blk_cell BS 5).trans rfl; have sf5 := blk_frozen BS 5; have z5 := (blk_cell BZ 5).trans rfl; have zf5 := blk_frozen BZ 5; have s6 := (blk_cell BS 6).trans rfl; have sf6 := blk_frozen BS 6; have z6 := (blk_cell BZ 6).trans rfl; have zf6 := blk_frozen BZ 6; have s7 := (blk_cell BS 7).trans rfl; have sf7 := blk_frozen BS 7; have z7 := (blk_cell BZ 7).trans rfl; have zf7 := blk_frozen BZ 7; have BS' := Lib.hid BS; have BZ' := Lib.hid BZ; have HB := Lib.hid (below_step (((Below.refl w.heap.size w).alloc (Nat.le_refl _) _).alloc (by simp) _) hb); clear BS BZ hb)
  have BS1 := BS'.out
  have BZ1 := blk_far (p := ⟨w.heap.size, 0, none⟩) BZ'.out (show w.heap.size + 1 ≠ w.heap.size by omega) (.string r)
  refine bodyPost_ret (results_cell_row rfl _ _ (w.heap.size + 1) 29 #[.string r, .slice A1 n1 c1, .string x2, .string x3, .slice A4 n4 c4, .slice A5 n5 c5, .slice A6 n6 c6, .string x7] (0, 0) _ rfl (put8 BZ1 _ _ _ _ _ _ _ _) Tryz.underlying29 rfl (by kernel_rfl)) rfl ?_
  exact ⟨rfl, below8 (HB.out.setCell (p := ⟨w.heap.size, 0, none⟩) (Nat.le_refl _) _) (Nat.le_succ _) _ _ _ _ _ _ _ _⟩
set_option maxRecDepth 100000 in
set_option maxHeartbeats 4000000 in
theorem spoilt_1 (x0 x2 x3 x7 : ByteArray) (A1 : Option Addr) (c1 : Nat) (l1 : List ByteArray) (A4 : Option Addr) (c4 : Nat) (l4 : List ByteArray) (A5 : Option Addr) (c5 : Nat) (l5 : List S47) (A6 : Option Addr) (c6 : Nat) (l6 : List ByteArray) (a1 : Int) (w : World) (base : Nat) (hbase : base ≤ w.heap.size) (ho : OwnT w base (.slice A1 l1.length c1) (.slice A4 l4.length c4) (.slice A5 l5.length c5) (.slice A6 l6.length c6) l1 l4 l5 l6) (hl : l4.length ≤ 1000) (q1 : (a1 == 1) = true) :
    Calls Tryz.prog 38 #[.agg #[.string x0, .slice A1 l1.length c1, .string x2, .string x3, .slice A4 l4.length c4, .slice A5 l5.length c5, .slice A6 l6.length c6, .string x7], .int .i64 a1] w fun e w' => ∃ A c, e = .returned (.agg #[.string x0, .slice A1 l1.length c1, .string x2, .string x3, .slice A (l4.length + 2) c, .slice A5 l5.length c5, .slice A6 l6.length c6, .string x7]) ∧ OwnT w' base (.slice A1 l1.length c1) (.slice A (l4.length + 2) c) (.slice A5 l5.length c5) (.slice A6 l6.length c6) l1 (l4 ++ ([⟨#[102, 111, 110, 105, 112, 97]⟩, ⟨#[102, 111, 110, 105, 112, 97]⟩] : List ByteArray)) l5 l6 ∧ Below base w w' ∧ ∀ k, k < w.heap.size → some k ≠ (Value.slice A4 l4.length c4).ownBlock → w'.heap[k]? = w.heap[k]? := by
  have hlt4 := Kd.R_lt ho.2.1
  have HO := Lib.hid (Kd.own_of_R (enc := Value.string) ho.2.1)
  have H := Lib.hid ho
  have hne0 : some w.heap.size ≠ (Value.slice A4 l4.length c4).ownBlock := fun e => absurd (hlt4 _ e.symm) (by omega)
  have hne1 : some (w.heap.size + 1) ≠ (Value.slice A4 l4.length c4).ownBlock := fun e => absurd (hlt4 _ e.symm) (by omega)
  have HN := Lib.hid (And.intro hne0 hne1)
  have HL := Lib.hid hl
  have HBs := Lib.hid hbase
  clear ho hl hlt4 hne0 hne1 hbase
  go_enter Tryz.func38, Tryz.ntmps38
  go_wp2_with (at_builtin; refine append_many (w0 := w) base rfl (.tmp 9) (.tmp 10) 26 9 (.string ⟨#[]⟩) 1 16 2 rfl Tryz.underlying26 info9 rfl (by decide) (by decide) (.slice A4 l4.length c4) l4.length (encs Value.string l4) [.string ⟨#[102, 111, 110, 105, 112, 97]⟩, .string ⟨#[102, 111, 110, 105, 112, 97]⟩] rfl ?aX rfl (by simp [Value.oneCell']) ((HO.out.alloc _).alloc _) ?aB ?aS ?aL ?_; (case aX => show Value.slice (some ⟨w.heap.size + 1 + 1, 0, none⟩) _ _ = _; simp); (case aB => exact ((Below.refl base w).alloc HBs.out _).alloc (by have := HBs.out; simp; omega) _); (case aS => have := HBs.out; simp; omega); (case aL => have := HL.out; omega); intro u w2 hown hb hg hat; obtain ⟨A, c, rfl⟩ := own_slice hown; have BS : w2.heap[w.heap.size]? = some (.cells #[.string x0, .slice A1 l1.length c1, .string x2, .string x3, .slice A4 l4.length c4, .slice A5 l5.length c5, .slice A6 l6.length c6, .string x7] 29 (0, 0)) := blk_grown (two_blocks w _ _ _).1 hg HN.out.1; have BZ : w2.heap[w.heap.size + 1]? = some (.cells #[.string (⟨#[]⟩ : ByteArray), .slice none 0 0, .string (⟨#[]⟩ : ByteArray), .string (⟨#[]⟩ : ByteArray), .slice none 0 0, .slice none 0 0, .slice none 0 0, .string (⟨#[]⟩ : ByteArray)] 29 (0, 0)) := blk_grown (two_blocks w _ _ _).2 hg HN.out.2; have s0 := (blk_cell BS 0).trans rfl; have sf0 := blk_frozen BS 0; have z0 := (blk_cell BZ 0).trans rfl; have zf0 := blk_frozen BZ 0; have s1 := (blk_cell BS 1).trans rfl; have sf1 := blk_frozen BS 1; have z1 := (blk_cell BZ 1).trans rfl; have zf1 := blk_frozen BZ 1; have s2 := (blk_cell BS 2).trans rfl; have sf2 := blk_frozen BS 2; have z2 := (blk_cell BZ 2).trans rfl; have zf2 := blk_frozen BZ 2; have s3 := (blk_cell BS 3).trans rfl; have sf3 := blk_frozen BS 3; have z3 := (blk_cell BZ 3).trans rfl; have zf3 := blk_frozen BZ 3; have s4 := (blk_cell BS 4).trans rfl; have sf4 := blk_frozen BS 4; have z4 := (blk_cell BZ 4).trans rfl; have zf4 := blk_frozen BZ 4; have s5 := (blk_cell BS 5).trans rfl; have sf5 := blk_frozen BS 5; have z5 := (blk_cell BZ 5).trans rfl; have zf5 := blk_frozen BZ 5; have s6 := (blk_cell BS 6).trans rfl; have sf6 := blk_frozen BS 6; have z6 := (blk_cell BZ 6).trans rfl; have zf6 := blk_frozen BZ 6; have s7 := (blk_cell BS 7).trans rfl; have sf7 := blk_frozen BS 7; have z7 := (blk_cell BZ 7).trans rfl; have zf7 := blk_frozen BZ 7; have BS' := Lib.hid BS; have BZ' := Lib.hid BZ; have HB := Lib.hid hb; have HG := Lib.hid hg; have HA := Lib.hid hat; have HW := Lib.hid hown; clear BS BZ hb hg hat hown)
  have hO : OwnT ((w.alloc (.cells #[.string x0, .slice A1 l1.length c1, .string x2, .string x3, .slice A4 l4.length c4, .slice A5 l5.length c5, .slice A6 l6.length c6, .string x7] 29)).alloc (.cells #[.string (⟨#[]⟩ : ByteArray), .slice none 0 0, .string (⟨#[]⟩ : ByteArray), .string (⟨#[]⟩ : ByteArray), .slice none 0 0, .slice none 0 0, .slice none 0 0, .string (⟨#[]⟩ : ByteArray)] 29)) base (.slice A1 l1.length c1) (.slice A4 l4.length c4) (.slice A5 l5.length c5) (.slice A6 l6.length c6) l1 l4 l5 l6 := H.out.below (((Below.refl w.heap.size w).alloc (Nat.le_refl _) _).alloc (by simp) _)
  have h2 : OwnT w2 base (.slice A1 l1.length c1) (.slice A (l4.length + 2) c) (.slice A5 l5.length c5) (.slice A6 l6.length c6) l1 (l4 ++ ([⟨#[102, 111, 110, 105, 112, 97]⟩, ⟨#[102, 111, 110, 105, 112, 97]⟩] : List ByteArray)) l5 l6 := hO.app4 HG.out HA.out (by rw [encs_append, List.length_append]; exact HW.out)
  have BS1 := BS'.out
  have BZ1 := blk_far (p := ⟨w.heap.size, 4, none⟩) BZ'.out (show w.heap.size + 1 ≠ w.heap.size by omega) (.slice A (l4.length + 2) c)
  refine bodyPost_ret (results_cell_row rfl _ _ (w.heap.size + 1) 29 #[.string x0, .slice A1 l1.length c1, .string x2, .string x3, .slice A (l4.length + 2) c, .slice A5 l5.length c5, .slice A6 l6.length c6, .string x7] (0, 0) _ rfl (put8 BZ1 _ _ _ _ _ _ _ _) Tryz.underlying29 rfl (by kernel_rfl)) rfl ?_
  exact ⟨A, c, rfl, (h2.set BS1 4 _).set8 BZ1 _ _ _ _ _ _ _ _, below8 (HB.out.setCell (p := ⟨w.heap.size, 4, none⟩) HBs.out _) (by have := HBs.out; omega) _ _ _ _ _ _ _ _, fun k hk hne => (keep8 (show k ≠ w.heap.size + 1 by omega) _ _ _ _ _ _ _ _ _).trans ((Below.heap_setCell _ _ _ k (show k ≠ w.heap.size by omega)).trans ((HG.out.block k (by first | (simp; omega) | (simp; done)) hne).trans ((((Below.refl w.heap.size w).alloc (Nat.le_refl _) _).alloc (by simp) _).block k hk)))⟩
set_option maxRecDepth 100000 in
set_option maxHeartbeats 4000000 in
theorem spoilt_6 (x0 x2 x3 x7 : ByteArray) (A1 : Option Addr) (c1 : Nat) (l1 : List ByteArray) (A4 : Option Addr) (c4 : Nat) (l4 : List ByteArray) (A5 : Option Addr) (c5 : Nat) (l5 : List S47) (A6 : Option Addr) (c6 : Nat) (l6 : List ByteArray) (a1 : Int) (w : World) (base : Nat) (hbase : base ≤ w.heap.size) (ho : OwnT w base (.slice A1 l1.length c1) (.slice A4 l4.length c4) (.slice A5 l5.length c5) (.slice A6 l6.length c6) l1 l4 l5 l6) (hl : l6.length ≤ 1000) (q1 : (a1 == 1) = false) (q2 : (a1 == 2) = false) (q3 : (a1 == 3) = false) (q4 : (a1 == 4) = false) (q5 : (a1 == 5) = false) (q6 : (a1 == 6) = true) :
    Calls Tryz.prog 38 #[.agg #[.string x0, .slice A1 l1.length c1, .string x2, .string x3, .slice A4 l4.length c4, .slice A5 l5.length c5, .slice A6 l6.length c6, .string x7], .int .i64 a1] w fun e w' => ∃ A c, e = .returned (.agg #[.string x0, .slice A1 l1.length c1, .string x2, .string x3, .slice A4 l4.length c4, .slice A5 l5.length c5, .slice A (l6.length + 1) c, .string x7]) ∧ OwnT w' base (.slice A1 l1.length c1) (.slice A4 l4.length c4) (.slice A5 l5.length c5) (.slice A (l6.length + 1) c) l1 l4 l5 (l6 ++ ([⟨#[97, 98, 99, 100, 101, 102, 103, 104, 105]⟩] : List ByteArray)) ∧ Below base w w' ∧ ∀ k, k < w.heap.size → some k ≠ (Value.slice A6 l6.length c6).ownBlock → w'.heap[k]? = w.heap[k]? := by
  have hlt6 := Kd.R_lt ho.2.2.2
  have HO := Lib.hid (Kd.own_of_R (enc := Value.string) ho.2.2.2)
  have H := Lib.hid ho
  have hne0 : some w.heap.size ≠ (Value.slice A6 l6.length c6).ownBlock := fun e => absurd (hlt6 _ e.symm) (by omega)
  have hne1 : some (w.heap.size + 1) ≠ (Value.slice A6 l6.length c6).ownBlock := fun e => absurd (hlt6 _ e.symm) (by omega)
  have HN := Lib.hid (And.intro hne0 hne1)
  have HL := Lib.hid hl
  have HBs := Lib.hid hbase
  clear ho hl hlt6 hne0 hne1 hbase
  go_enter Tryz.func38, Tryz.ntmps38
  go_wp2_with (at_builtin; refine append_many (w0 := w) base rfl (.tmp 36) (.tmp 37) 26 9 (.string ⟨#[]⟩) 1 16 1 rfl Tryz.underlying26 info9 rfl (by decide) (by decide) (.slice A6 l6.length c6) l6.length (encs Value.string l6) [.string ⟨#[97, 98, 99, 100, 101, 102, 103, 104, 105]⟩] rfl ?aX rfl (by simp [Value.oneCell']) ((HO.out.alloc _).alloc _) ?aB ?aS ?aL ?_; (case aX => show Value.slice (some ⟨w.heap.size + 1 + 1, 0, none⟩) _ _ = _; simp); (case aB => exact ((Below.refl base w).alloc HBs.out _).alloc (by have := HBs.out; simp; omega) _); (case aS => have := HBs.out; simp; omega); (case aL => have := HL.out; omega); intro u w2 hown hb hg hat; obtain ⟨A, c, rfl⟩ := own_slice hown; have BS : w2.heap[w.heap.size]? = some (.cells #[.string x0, .slice A1 l1.length c1, .string x2, .string x3, .slice A4 l4.length c4, .slice A5 l5.length c5, .slice A6 l6.length c6, .string x7] 29 (0, 0)) := blk_grown (two_blocks w _ _ _).1 hg HN.out.1; have BZ : w2.heap[w.heap.size + 1]? = some (.cells #[.string (⟨#[]⟩ : ByteArray), .slice none 0 0, .string (⟨#[]⟩ : ByteArray), .string (⟨#[]⟩ : ByteArray), .slice none 0 0, .slice none 0 0, .slice none 0 0, .string (⟨#[]⟩ : ByteArray)] 29 (0, 0)) := blk_grown (two_blocks w _ _ _).2 hg HN.out.2; have s0 := (blk_cell BS 0).trans rfl; have sf0 := blk_frozen BS 0; have z0 := (blk_cell BZ 0).trans rfl; have zf0 := blk_frozen BZ 0; have s1 := (blk_cell BS 1).trans rfl; have sf1 := blk_frozen BS 1; have z1 := (blk_cell BZ 1).trans rfl; have zf1 := blk_frozen BZ 1; have s2 := (blk_cell BS 2).trans rfl; have sf2 := blk_frozen BS 2; have z2 := (blk_cell BZ 2).trans rfl; have zf2 := blk_frozen BZ 2; have s3 := (blk_cell BS 3).trans rfl; have sf3 := blk_frozen BS 3; have z3 := (blk_cell BZ 3).trans rfl; have zf3 := blk_frozen BZ 3; have s4 := (blk_cell BS 4).trans rfl; have sf4 := blk_frozen BS 4; have z4 := (blk_cell BZ 4).trans rfl; have zf4 := blk_frozen BZ 4; have s5 := (blk_cell BS 5).trans rfl; have sf5 := blk_frozen BS 5; have z5 := (blk_cell BZ 5).trans rfl; have zf5 := blk_frozen BZ 5; have s6 := (blk_cell BS 6).trans rfl; have sf6 := blk_frozen BS 6; have z6 := (blk_cell BZ 6).trans rfl; have zf6 := blk_frozen BZ 6; have s7 := (blk_cell BS 7).trans rfl; have sf7 := blk_frozen BS 7; have z7 := (blk_cell BZ 7).trans rfl; have zf7 := blk_frozen BZ 7; have BS' := Lib.hid BS; have BZ' := Lib.hid BZ; have HB := Lib.hid hb; have HG := Lib.hid hg; have HA := Lib.hid hat; have HW := Lib.hid hown; clear BS BZ hb hg hat hown)
  have hO : OwnT ((w.alloc (.cells #[.string x0, .slice A1 l1.length c1, .string x2, .string x3, .slice A4 l4.length c4, .slice A5 l5.length c5, .slice A6 l6.length c6, .string x7] 29)).alloc (.cells #[.string (⟨#[]⟩ : ByteArray), .slice none 0 0, .string (⟨#[]⟩ : ByteArray), .string (⟨#[]⟩ : ByteArray), .slice none 0 0, .slice none 0 0, .slice none 0 0, .string (⟨#[]⟩ : ByteArray)] 29)) base (.slice A1 l1.length c1) (.slice A4 l4.length c4) (.slice A5 l5.length c5) (.slice A6 l6.length c6) l1 l4 l5 l6 := H.out.below (((Below.refl w.heap.size w).alloc (Nat.le_refl _) _).alloc (by simp) _)
  have h2 : OwnT w2 base (.slice A1 l1.length c1) (.slice A4 l4.length c4) (.slice A5 l5.length c5) (.slice A (l6.length + 1) c) l1 l4 l5 (l6 ++ ([⟨#[97, 98, 99, 100, 101, 102, 103, 104, 105]⟩] : List ByteArray)) := hO.app6 HG.out HA.out (by rw [encs_append, List.length_append]; exact HW.out)
  have BS1 := BS'.out
  have BZ1 := blk_far (p := ⟨w.heap.size, 6, none⟩) BZ'.out (show w.heap.size + 1 ≠ w.heap.size by omega) (.slice A (l6.length + 1) c)
  refine bodyPost_ret (results_cell_row rfl _ _ (w.heap.size + 1) 29 #[.string x0, .slice A1 l1.length c1, .string x2, .string x3, .slice A4 l4.length c4, .slice A5 l5.length c5, .slice A (l6.length + 1) c, .string x7] (0, 0) _ rfl (put8 BZ1 _ _ _ _ _ _ _ _) Tryz.underlying29 rfl (by kernel_rfl)) rfl ?_
  exact ⟨A, c, rfl, (h2.set BS1 6 _).set8 BZ1 _ _ _ _ _ _ _ _, below8 (HB.out.setCell (p := ⟨w.heap.size, 6, none⟩) HBs.out _) (by have := HBs.out; omega) _ _ _ _ _ _ _ _, fun k hk hne => (keep8 (show k ≠ w.heap.size + 1 by omega) _ _ _ _ _ _ _ _ _).trans ((Below.heap_setCell _ _ _ k (show k ≠ w.heap.size by omega)).trans ((HG.out.block k (by first | (simp; omega) | (simp; done)) hne).trans ((((Below.refl w.heap.size w).alloc (Nat.le_refl _) _).alloc (by simp) _).block k hk)))⟩
set_option maxRecDepth 100000 in
set_option maxHeartbeats 4000000 in
theorem spoilt_3 (x0 x2 x3 x7 : ByteArray) (A1 : Option Addr) (c1 : Nat) (l1 : List ByteArray) (A4 : Option Addr) (c4 : Nat) (l4 : List ByteArray) (A5 : Option Addr) (c5 : Nat) (l5 : List S47) (A6 : Option Addr) (c6 : Nat) (l6 : List ByteArray) (a1 : Int) (w : World) (base : Nat) (hbase : base ≤ w.heap.size) (ho : OwnT w base (.slice A1 l1.length c1) (.slice A4 l4.length c4) (.slice A5 l5.length c5) (.slice A6 l6.length c6) l1 l4 l5 l6) (hl : l5.length ≤ 1000) (q1 : (a1 == 1) = false) (q2 : (a1 == 2) = false) (q3 : (a1 == 3) = true) :
    Calls Tryz.prog 38 #[.agg #[.string x0, .slice A1 l1.length c1, .string x2, .string x3, .slice A4 l4.length c4, .slice A5 l5.length c5, .slice A6 l6.length c6, .string x7], .int .i64 a1] w fun e w' => ∃ A c, e = .returned (.agg #[.string x0, .slice A1 l1.length c1, .string x2, .string x3, .slice A4 l4.length c4, .slice A (l5.length + 1) c, .slice A6 l6.length c6, .string x7]) ∧ OwnT w' base (.slice A1 l1.length c1) (.slice A4 l4.length c4) (.slice A (l5.length + 1) c) (.slice A6 l6.length c6) l1 l4 (l5 ++ [⟨⟨#[98]⟩, []⟩]) l6 ∧ Below base w w' ∧ ∀ k, k < w.heap.size → some k ≠ (Value.slice A5 l5.length c5).ownBlock → w'.heap[k]? = w.heap[k]? := by
  have hlt1 := Kd.R_lt ho.1
  have hlt4 := Kd.R_lt ho.2.1
  have hlt5 := Kd.S_lt ho.2.2.1
  have hlt6 := Kd.R_lt ho.2.2.2
  have hne0 : some w.heap.size ≠ (Value.slice A5 l5.length c5).ownBlock := fun e => absurd (hlt5 _ e.symm) (by omega)
  have hne1 : some (w.heap.size + 1) ≠ (Value.slice A5 l5.length c5).ownBlock := fun e => absurd (hlt5 _ e.symm) (by omega)
  have hfr : ∀ k, w.heap.size ≤ k → some k ≠ (Value.slice A1 l1.length c1).ownBlock ∧ some k ≠ (Value.slice A4 l4.length c4).ownBlock ∧ some k ≠ (Value.slice A6 l6.length c6).ownBlock :=
    fun k hk => ⟨fun e => absurd (hlt1 _ e.symm) (by omega), fun e => absurd (hlt4 _ e.symm) (by omega), fun e => absurd (hlt6 _ e.symm) (by omega)⟩
  have hf5 : ∀ k, w.heap.size ≤ k → some k ≠ (Value.slice A5 l5.length c5).ownBlock := fun k hk e => absurd (hlt5 _ e.symm) (by omega)
  have hb2 : Below w.heap.size w ((w.alloc (.cells #[.string x0, .slice A1 l1.length c1, .string x2, .string x3, .slice A4 l4.length c4, .slice A5 l5.length c5, .slice A6 l6.length c6, .string x7] 29)).alloc (.cells #[.string (⟨#[]⟩ : ByteArray), .slice none 0 0, .string (⟨#[]⟩ : ByteArray), .string (⟨#[]⟩ : ByteArray), .slice none 0 0, .slice none 0 0, .slice none 0 0, .string (⟨#[]⟩ : ByteArray)] 29)) := ((Below.refl w.heap.size w).alloc (Nat.le_refl _) _).alloc (by simp) _
  have H := Lib.hid (ho.below hb2)
  have HN := Lib.hid (And.intro hne0 hne1)
  have HL := Lib.hid hl
  have HBs := Lib.hid hbase
  have HF := Lib.hid hfr
  have HF5 := Lib.hid hf5
  clear ho hl hlt1 hlt4 hlt5 hlt6 hne0 hne1 hbase hfr hf5 hb2
  go_enter Tryz.func38, Tryz.ntmps38
  go_wp2_with (at_builtin; refine Kd.S_append k47 (w0 := w) base rfl (.tmp 22) (.tmp 24) 27 47 (.agg #[.string ⟨#[]⟩, .slice none 0 0]) 40 rfl Tryz.underlying27 info47 rfl (by decide) (by decide) (.slice A5 l5.length c5) l5 ⟨⟨#[98]⟩, []⟩ [.string ⟨#[98]⟩, .slice none 0 0] (fun k_ => some k_ ≠ (Value.slice A1 l1.length c1).ownBlock ∧ some k_ ≠ (Value.slice A4 l4.length c4).ownBlock ∧ some k_ ≠ (Value.slice A6 l6.length c6).ownBlock) (fun _ => False) rfl ?aX (k47_mkM _ base _ _ (Kd.R_nil _ _ _ _ _)) (fun _ h => h.elim) ?aF ?aO ?aB ?aS ?aL ?_; (case aX => show Value.slice (some ⟨w.heap.size + 1 + 1, 0, none⟩) _ _ = _; simp); (case aF => intro k hk; exact HF.out k (by simp at hk; omega)); (case aO => exact Kd.S_mono H.out.2.2.1 (fun _ h => ⟨h, fun x => x.elim⟩)); (case aB => exact ((Below.refl base w).alloc HBs.out _).alloc (by have := HBs.out; simp; omega) _); (case aS => have := HBs.out; simp; omega); (case aL => have := HL.out; omega); intro u w2 hs hb hg hat; obtain ⟨A, c, hu⟩ := Kd.S_slice hs; rw [List.length_append] at hu; have hu1 : u = .slice A (l5.length + 1) c := hu; clear hu; subst hu1; have BS : w2.heap[w.heap.size]? = some (.cells #[.string x0, .slice A1 l1.length c1, .string x2, .string x3, .slice A4 l4.length c4, .slice A5 l5.length c5, .slice A6 l6.length c6, .string x7] 29 (0, 0)) := blk_grown (two_blocks w _ _ _).1 hg HN.out.1; have BZ : w2.heap[w.heap.size + 1]? = some (.cells #[.string (⟨#[]⟩ : ByteArray), .slice none 0 0, .string (⟨#[]⟩ : ByteArray), .string (⟨#[]⟩ : ByteArray), .slice none 0 0, .slice none 0 0, .slice none 0 0, .string (⟨#[]⟩ : ByteArray)] 29 (0, 0)) := blk_grown (two_blocks w _ _ _).2 hg HN.out.2; have s0 := (blk_cell BS 0).trans rfl; have sf0 := blk_frozen BS 0; have z0 := (blk_cell BZ 0).trans rfl; have zf0 := blk_frozen BZ 0; have s1 := (blk_cell BS 1).trans rfl; have sf1 := blk_frozen BS 1; have z1 := (blk_cell BZ 1).trans rfl; have zf1 := blk_frozen BZ 1; have s2 := (blk_cell BS 2).trans rfl; have sf2 := blk_frozen BS 2; have z2 := (blk_cell BZ 2).trans rfl; have zf2 := blk_frozen BZ 2; have s3 := (blk_cell BS 3).trans rfl; have sf3 := blk_frozen BS 3; have z3 := (blk_cell BZ 3).trans rfl; have zf3 := blk_frozen BZ 3; have s4 := (blk_cell BS 4).trans rfl; have sf4 := blk_frozen BS 4; have z4 := (blk_cell BZ 4).trans rfl; have zf4 := blk_frozen BZ 4; have s5 := (blk_cell BS 5).trans rfl; have sf5 := blk_frozen BS 5; have z5 := (blk_cell BZ 5).trans rfl; have zf5 := blk_frozen BZ 5; have s6 := (blk_cell BS 6).trans rfl; have sf6 := blk_frozen BS 6; have z6 := (blk_cell BZ 6).trans rfl; have zf6 := blk_frozen BZ 6; have s7 := (blk_cell BS 7).trans rfl; have sf7 := blk_frozen BS 7; have z7 := (blk_cell BZ 7).trans rfl; have zf7 := blk_frozen BZ 7; have BS1 := Lib.hid BS; have BZ1 := Lib.hid BZ; have BS' := BS1; have BZ' := BZ1; clear BS1 BZ1; have HB := Lib.hid hb; have HG := Lib.hid hg; have HS := Lib.hid hs; clear BS BZ hb hg hat hs)
  have h2 : OwnT w2 base (.slice A1 l1.length c1) (.slice A4 l4.length c4) (.slice A (l5.length + 1) c) (.slice A6 l6.length c6) l1 l4 (l5 ++ [⟨⟨#[98]⟩, []⟩]) l6 := (H.out).app5 HG.out HS.out
  have BS1 := BS'.out
  have BZ1 := blk_far (p := ⟨w.heap.size, 5, none⟩) BZ'.out (show w.heap.size + 1 ≠ w.heap.size by omega) (.slice A (l5.length + 1) c)
  refine bodyPost_ret (results_cell_row rfl _ _ (w.heap.size + 1) 29 #[.string x0, .slice A1 l1.length c1, .string x2, .string x3, .slice A4 l4.length c4, .slice A (l5.length + 1) c, .slice A6 l6.length c6, .string x7] (0, 0) _ rfl (put8 BZ1 _ _ _ _ _ _ _ _) Tryz.underlying29 rfl (by kernel_rfl)) rfl ?_
  exact ⟨A, c, rfl, (h2.set BS1 5 _).set8 BZ1 _ _ _ _ _ _ _ _, below8 (HB.out.setCell (p := ⟨w.heap.size, 5, none⟩) HBs.out _) (by have := HBs.out; omega) _ _ _ _ _ _ _ _, fun k hk hne => (keep8 (show k ≠ w.heap.size + 1 by omega) _ _ _ _ _ _ _ _ _).trans ((Below.heap_setCell _ _ _ k (show k ≠ w.heap.size by omega)).trans ((HG.out.block k (by first | (simp; omega) | (simp; done)) hne).trans ((((Below.refl w.heap.size w).alloc (Nat.le_refl _) _).alloc (by simp) _).block k hk)))⟩
set_option maxRecDepth 100000 in
set_option maxHeartbeats 4000000 in
theorem spoilt_7 (x0 x2 x3 x7 : ByteArray) (A1 : Option Addr) (c1 : Nat) (l1 : List ByteArray) (A4 : Option Addr) (c4 : Nat) (l4 : List ByteArray) (A5 : Option Addr) (c5 : Nat) (l5 : List S47) (A6 : Option Addr) (c6 : Nat) (l6 : List ByteArray) (a1 : Int) (w : World) (base : Nat) (hbase : base ≤ w.heap.size) (ho : OwnT w base (.slice A1 l1.length c1) (.slice A4 l4.length c4) (.slice A5 l5.length c5) (.slice A6 l6.length c6) l1 l4 l5 l6) (hl : l5.length ≤ 1000) (q1 : (a1 == 1) = false) (q2 : (a1 == 2) = false) (q3 : (a1 == 3) = false) (q4 : (a1 == 4) = false) (q5 : (a1 == 5) = false) (q6 : (a1 == 6) = false) (q7 : (a1 == 7) = true) :
    Calls Tryz.prog 38 #[.agg #[.string x0, .slice A1 l1.length c1, .string x2, .string x3, .slice A4 l4.length c4, .slice A5 l5.length c5, .slice A6 l6.length c6, .string x7], .int .i64 a1] w fun e w' => ∃ A c, e = .returned (.agg #[.string x0, .slice A1 l1.length c1, .string x2, .string x3, .slice A4 l4.length c4, .slice A (l5.length + 2) c, .slice A6 l6.length c6, .string x7]) ∧ OwnT w' base (.slice A1 l1.length c1) (.slice A4 l4.length c4) (.slice A (l5.length + 2) c) (.slice A6 l6.length c6) l1 l4 (l5 ++ [⟨⟨#[99]⟩, [⟨#[97, 98]⟩]⟩, ⟨⟨#[99]⟩, [⟨#[99, 100]⟩]⟩]) l6 ∧ Below base w w' ∧ ∀ k, k < w.heap.size → some k ≠ (Value.slice A5 l5.length c5).ownBlock → w'.heap[k]? = w.heap[k]? := by
  have hlt1 := Kd.R_lt ho.1
  have hlt4 := Kd.R_lt ho.2.1
  have hlt5 := Kd.S_lt ho.2.2.1
  have hlt6 := Kd.R_lt ho.2.2.2
  have hne0 : some w.heap.size ≠ (Value.slice A5 l5.length c5).ownBlock := fun e => absurd (hlt5 _ e.symm) (by omega)
  have hne1 : some (w.heap.size + 1) ≠ (Value.slice A5 l5.length c5).ownBlock := fun e => absurd (hlt5 _ e.symm) (by omega)
  have hfr : ∀ k, w.heap.size ≤ k → some k ≠ (Value.slice A1 l1.length c1).ownBlock ∧ some k ≠ (Value.slice A4 l4.length c4).ownBlock ∧ some k ≠ (Value.slice A6 l6.length c6).ownBlock :=
    fun k hk => ⟨fun e => absurd (hlt1 _ e.symm) (by omega), fun e => absurd (hlt4 _ e.symm) (by omega), fun e => absurd (hlt6 _ e.symm) (by omega)⟩
  have hf5 : ∀ k, w.heap.size ≤ k → some k ≠ (Value.slice A5 l5.length c5).ownBlock := fun k hk e => absurd (hlt5 _ e.symm) (by omega)
  have hb2 : Below w.heap.size w ((w.alloc (.cells #[.string x0, .slice A1 l1.length c1, .string x2, .string x3, .slice A4 l4.length c4, .slice A5 l5.length c5, .slice A6 l6.length c6, .string x7] 29)).alloc (.cells #[.string (⟨#[]⟩ : ByteArray), .slice none 0 0, .string (⟨#[]⟩ : ByteArray), .string (⟨#[]⟩ : ByteArray), .slice none 0 0, .slice none 0 0, .slice none 0 0, .string (⟨#[]⟩ : ByteArray)] 29)) := ((Below.refl w.heap.size w).alloc (Nat.le_refl _) _).alloc (by simp) _
  have H := Lib.hid (ho.below hb2)
  have HN := Lib.hid (And.intro hne0 hne1)
  have HL := Lib.hid hl
  have HBs := Lib.hid hbase
  have HF := Lib.hid hfr
  have HF5 := Lib.hid hf5
  have z2 : ((w.alloc (.cells #[.string x0, .slice A1 l1.length c1, .string x2, .string x3, .slice A4 l4.length c4, .slice A5 l5.length c5, .slice A6 l6.length c6, .string x7] 29)).alloc (.cells #[.string (⟨#[]⟩ : ByteArray), .slice none 0 0, .string (⟨#[]⟩ : ByteArray), .string (⟨#[]⟩ : ByteArray), .slice none 0 0, .slice none 0 0, .slice none 0 0, .string (⟨#[]⟩ : ByteArray)] 29)).heap.size = w.heap.size + 1 + 1 := by simp
  have z3 : (((w.alloc (.cells #[.string x0, .slice A1 l1.length c1, .string x2, .string x3, .slice A4 l4.length c4, .slice A5 l5.length c5, .slice A6 l6.length c6, .string x7] 29)).alloc (.cells #[.string (⟨#[]⟩ : ByteArray), .slice none 0 0, .string (⟨#[]⟩ : ByteArray), .string (⟨#[]⟩ : ByteArray), .slice none 0 0, .slice none 0 0, .slice none 0 0, .string (⟨#[]⟩ : ByteArray)] 29)).alloc (.cells #[.string ⟨#[97, 98]⟩] 9)).heap.size = w.heap.size + 1 + 1 + 1 := by simp
  have m1 := lit_row ((w.alloc (.cells #[.string x0, .slice A1 l1.length c1, .string x2, .string x3, .slice A4 l4.length c4, .slice A5 l5.length c5, .slice A6 l6.length c6, .string x7] 29)).alloc (.cells #[.string (⟨#[]⟩ : ByteArray), .slice none 0 0, .string (⟨#[]⟩ : ByteArray), .string (⟨#[]⟩ : ByteArray), .slice none 0 0, .slice none 0 0, .slice none 0 0, .string (⟨#[]⟩ : ByteArray)] 29)) base (by rw [z2]; omega) ⟨#[97, 98]⟩
  have m2 := lit_row (((w.alloc (.cells #[.string x0, .slice A1 l1.length c1, .string x2, .string x3, .slice A4 l4.length c4, .slice A5 l5.length c5, .slice A6 l6.length c6, .string x7] 29)).alloc (.cells #[.string (⟨#[]⟩ : ByteArray), .slice none 0 0, .string (⟨#[]⟩ : ByteArray), .string (⟨#[]⟩ : ByteArray), .slice none 0 0, .slice none 0 0, .slice none 0 0, .string (⟨#[]⟩ : ByteArray)] 29)).alloc (.cells #[.string ⟨#[97, 98]⟩] 9)) base (by rw [z3]; omega) ⟨#[99, 100]⟩
  rw [z2] at m1
  rw [z3] at m2
  have hb4 : Below ((w.alloc (.cells #[.string x0, .slice A1 l1.length c1, .string x2, .string x3, .slice A4 l4.length c4, .slice A5 l5.length c5, .slice A6 l6.length c6, .string x7] 29)).alloc (.cells #[.string (⟨#[]⟩ : ByteArray), .slice none 0 0, .string (⟨#[]⟩ : ByteArray), .string (⟨#[]⟩ : ByteArray), .slice none 0 0, .slice none 0 0, .slice none 0 0, .string (⟨#[]⟩ : ByteArray)] 29)).heap.size ((w.alloc (.cells #[.string x0, .slice A1 l1.length c1, .string x2, .string x3, .slice A4 l4.length c4, .slice A5 l5.length c5, .slice A6 l6.length c6, .string x7] 29)).alloc (.cells #[.string (⟨#[]⟩ : ByteArray), .slice none 0 0, .string (⟨#[]⟩ : ByteArray), .string (⟨#[]⟩ : ByteArray), .slice none 0 0, .slice none 0 0, .slice none 0 0, .string (⟨#[]⟩ : ByteArray)] 29)) ((((w.alloc (.cells #[.string x0, .slice A1 l1.length c1, .string x2, .string x3, .slice A4 l4.length c4, .slice A5 l5.length c5, .slice A6 l6.length c6, .string x7] 29)).alloc (.cells #[.string (⟨#[]⟩ : ByteArray), .slice none 0 0, .string (⟨#[]⟩ : ByteArray), .string (⟨#[]⟩ : ByteArray), .slice none 0 0, .slice none 0 0, .slice none 0 0, .string (⟨#[]⟩ : ByteArray)] 29)).alloc (.cells #[.string ⟨#[97, 98]⟩] 9)).alloc (.cells #[.string ⟨#[99, 100]⟩] 9)) := ((Below.refl _ _).alloc (Nat.le_refl _) _).alloc (by simp) _
  have zf : ((((w.alloc (.cells #[.string x0, .slice A1 l1.length c1, .string x2, .string x3, .slice A4 l4.length c4, .slice A5 l5.length c5, .slice A6 l6.length c6, .string x7] 29)).alloc (.cells #[.string (⟨#[]⟩ : ByteArray), .slice none 0 0, .string (⟨#[]⟩ : ByteArray), .string (⟨#[]⟩ : ByteArray), .slice none 0 0, .slice none 0 0, .slice none 0 0, .string (⟨#[]⟩ : ByteArray)] 29)).alloc (.cells #[.string ⟨#[97, 98]⟩] 9)).alloc (.cells #[.string ⟨#[99, 100]⟩] 9)).heap.size = w.heap.size + 1 + 1 + 1 + 1 := by simp
  have pre := S_append2 (d := k47) (e := 47) (base := base) (ok := (fun k_ => some k_ ≠ (Value.slice A1 l1.length c1).ownBlock ∧ some k_ ≠ (Value.slice A4 l4.length c4).ownBlock ∧ some k_ ≠ (Value.slice A6 l6.length c6).ownBlock)) (okp := fun k => k = w.heap.size + 1 + 1) (okq := fun k => k = w.heap.size + 1 + 1 + 1) (W := ((((w.alloc (.cells #[.string x0, .slice A1 l1.length c1, .string x2, .string x3, .slice A4 l4.length c4, .slice A5 l5.length c5, .slice A6 l6.length c6, .string x7] 29)).alloc (.cells #[.string (⟨#[]⟩ : ByteArray), .slice none 0 0, .string (⟨#[]⟩ : ByteArray), .string (⟨#[]⟩ : ByteArray), .slice none 0 0, .slice none 0 0, .slice none 0 0, .string (⟨#[]⟩ : ByteArray)] 29)).alloc (.cells #[.string ⟨#[97, 98]⟩] 9)).alloc (.cells #[.string ⟨#[99, 100]⟩] 9))) (p := ⟨⟨#[99]⟩, [⟨#[97, 98]⟩]⟩) (q := ⟨⟨#[99]⟩, [⟨#[99, 100]⟩]⟩) (cs := [.string ⟨#[99]⟩, .slice (some ⟨w.heap.size + 1 + 1, 0, none⟩) 1 1]) (ds := [.string ⟨#[99]⟩, .slice (some ⟨w.heap.size + 1 + 1 + 1, 0, none⟩) 1 1])
    (Kd.S_mono (Kd.S_below (Kd.S_bound H.out.2.2.1) hb4) (fun k h => ⟨h.1, by have := h.2.2.1; rw [z2] at this; omega, by have := h.2.2.1; rw [z2] at this; omega⟩))
    (k47_mkM _ base _ _ (Kd.R_alloc m1 _)) (fun k hk => by subst hk; exact ⟨hfr _ (by omega), hf5 _ (by omega)⟩) (k47_mkM _ base _ _ m2) (fun k hk => by subst hk; exact ⟨hfr _ (by omega), hf5 _ (by omega)⟩) (fun k hk e => by omega) (fun k hk => hfr k (by rw [zf] at hk; omega))
  obtain ⟨inner, hin, hcont⟩ := pre
  have HI := Lib.hid hin
  have HC := Lib.hid hcont
  have HB4a := Lib.hid hb4
  clear ho hl hlt1 hlt4 hlt5 hlt6 hne0 hne1 hbase hfr hf5 hb2 z2 z3 m1 m2 hb4 zf hin hcont
  go_enter Tryz.func38, Tryz.ntmps38
  go_wp2_with (at_builtin; refine append_many (w0 := w) base rfl (.tmp 43) (.tmp 48) 27 47 (.agg #[.string ⟨#[]⟩, .slice none 0 0]) 2 40 2 rfl Tryz.underlying27 info47 rfl (by decide) (by decide) (.slice A5 l5.length c5) l5.length inner [.string ⟨#[99]⟩, .slice (some ⟨w.heap.size + 1 + 1, 0, none⟩) 1 1, .string ⟨#[99]⟩, .slice (some ⟨w.heap.size + 1 + 1 + 1, 0, none⟩) 1 1] rfl ?aX rfl (by simp [Value.oneCell']) HI.out ?aB ?aS ?aL ?_; (case aX => show Value.slice (some ⟨w.heap.size + 1 + 1 + 1 + 1, 0, none⟩) _ _ = _; simp); (case aB => exact ((((Below.refl base w).alloc HBs.out _).alloc (by have := HBs.out; simp; omega) _).alloc (by have := HBs.out; simp; omega) _).alloc (by have := HBs.out; simp; omega) _); (case aS => have := HBs.out; simp; omega); (case aL => have := HL.out; omega); intro u w2 hown hb hg hat; have hs := HC.out u w2 hown hg hat; have HB4 := HB4a; clear hown; obtain ⟨A, c, hu⟩ := Kd.S_slice hs; rw [List.length_append] at hu; have hu1 : u = .slice A (l5.length + 2) c := hu; clear hu; subst hu1; have BS : w2.heap[w.heap.size]? = some (.cells #[.string x0, .slice A1 l1.length c1, .string x2, .string x3, .slice A4 l4.length c4, .slice A5 l5.length c5, .slice A6 l6.length c6, .string x7] 29 (0, 0)) := blk_grown ((HB4.out.block _ (by first | (simp; done) | (simp; omega))).trans (two_blocks w _ _ _).1) hg HN.out.1; have BZ : w2.heap[w.heap.size + 1]? = some (.cells #[.string (⟨#[]⟩ : ByteArray), .slice none 0 0, .string (⟨#[]⟩ : ByteArray), .string (⟨#[]⟩ : ByteArray), .slice none 0 0, .slice none 0 0, .slice none 0 0, .string (⟨#[]⟩ : ByteArray)] 29 (0, 0)) := blk_grown ((HB4.out.block _ (by first | (simp; done) | (simp; omega))).trans (two_blocks w _ _ _).2) hg HN.out.2; have s0 := (blk_cell BS 0).trans rfl; have sf0 := blk_frozen BS 0; have z0 := (blk_cell BZ 0).trans rfl; have zf0 := blk_frozen BZ 0; have s1 := (blk_cell BS 1).trans rfl; have sf1 := blk_frozen BS 1; have z1 := (blk_cell BZ 1).trans rfl; have zf1 := blk_frozen BZ 1; have s2 := (blk_cell BS 2).trans rfl; have sf2 := blk_frozen BS 2; have z2 := (blk_cell BZ 2).trans rfl; have zf2 := blk_frozen BZ 2; have s3 := (blk_cell BS 3).trans rfl; have sf3 := blk_frozen BS 3; have z3 := (blk_cell BZ 3).trans rfl; have zf3 := blk_frozen BZ 3; have s4 := (blk_cell BS 4).trans rfl; have sf4 := blk_frozen BS 4; have z4 := (blk_cell BZ 4).trans rfl; have zf4 := blk_frozen BZ 4; have s5 := (blk_cell BS 5).trans rfl; have sf5 := blk_frozen BS 5; have z5 := (blk_cell BZ 5).trans rfl; have zf5 := blk_frozen BZ 5; have s6 := (blk_cell BS 6).trans rfl; have sf6 := blk_frozen BS 6; have z6 := (blk_cell BZ 6).trans rfl; have zf6 := blk_frozen BZ 6; have s7 := (blk_cell BS 7).trans rfl; have sf7 := blk_frozen BS 7; have z7 := (blk_cell BZ 7).trans rfl; have zf7 := blk_frozen BZ 7; have BS1 := Lib.hid BS; have BZ1 := Lib.hid BZ; have BS' := BS1; have BZ' := BZ1; clear BS1 BZ1; have HB := Lib.hid hb; have HG := Lib.hid hg; have HS := Lib.hid hs; clear BS BZ hb hg hat hs)
  have h2 : OwnT w2 base (.slice A1 l1.length c1) (.slice A4 l4.length c4) (.slice A (l5.length + 2) c) (.slice A6 l6.length c6) l1 l4 (l5 ++ [⟨⟨#[99]⟩, [⟨#[97, 98]⟩]⟩, ⟨⟨#[99]⟩, [⟨#[99, 100]⟩]⟩]) l6 := (H.out.below HB4.out).app5 HG.out HS.out
  have BS1 := BS'.out
  have BZ1 := blk_far (p := ⟨w.heap.size, 5, none⟩) BZ'.out (show w.heap.size + 1 ≠ w.heap.size by omega) (.slice A (l5.length + 2) c)
  refine bodyPost_ret (results_cell_row rfl _ _ (w.heap.size + 1) 29 #[.string x0, .slice A1 l1.length c1, .string x2, .string x3, .slice A4 l4.length c4, .slice A (l5.length + 2) c, .slice A6 l6.length c6, .string x7] (0, 0) _ rfl (put8 BZ1 _ _ _ _ _ _ _ _) Tryz.underlying29 rfl (by kernel_rfl)) rfl ?_
  exact ⟨A, c, rfl, (h2.set BS1 5 _).set8 BZ1 _ _ _ _ _ _ _ _, below8 (HB.out.setCell (p := ⟨w.heap.size, 5, none⟩) HBs.out _) (by have := HBs.out; omega) _ _ _ _ _ _ _ _, fun k hk hne => (keep8 (show k ≠ w.heap.size + 1 by omega) _ _ _ _ _ _ _ _ _).trans ((Below.heap_setCell _ _ _ k (show k ≠ w.heap.size by omega)).trans ((HG.out.block k (by first | (simp; omega) | (simp; done)) hne).trans ((((((Below.refl w.heap.size w).alloc (Nat.le_refl _) _).alloc (by simp) _).alloc (by simp; omega) _).alloc (by simp; omega) _).block k hk)))⟩
theorem below_lower {b B : Nat} {w W : World} (h : Below B w W) (hb : b ≤ B) : Below b w W := ⟨h.os, h.tape, h.output, h.size, fun i hi => h.block i (Nat.lt_of_lt_of_le hi hb)⟩
set_option maxHeartbeats 1000000 in
theorem spoilt_calls (k : Nat) (x0 x2 x3 x7 : ByteArray) (A1 : Option Addr) (c1 : Nat) (l1 : List ByteArray) (A4 : Option Addr) (c4 : Nat) (l4 : List ByteArray) (A5 : Option Addr) (c5 : Nat) (l5 : List S47) (A6 : Option Addr) (c6 : Nat) (l6 : List ByteArray) (a1 : Int) (r1 : ByteArray) (r2 : List ByteArray) (r3 r4 : ByteArray) (r5 : List ByteArray) (r6 : List S47) (r7 : List ByteArray) (r8 : ByteArray) (w : World) (base : Nat) (hbase : base ≤ w.heap.size) (ho : OwnT w base (.slice A1 l1.length c1) (.slice A4 l4.length c4) (.slice A5 l5.length c5) (.slice A6 l6.length c6) l1 l4 l5 l6)
    (h : r6_spoilt.f k x0 l1 x2 x3 l4 l5 l6 x7 a1 = some (r1, r2, r3, r4, r5, r6, r7, r8)) :
    Calls Tryz.prog 38 #[.agg #[.string x0, .slice A1 l1.length c1, .string x2, .string x3, .slice A4 l4.length c4, .slice A5 l5.length c5, .slice A6 l6.length c6, .string x7], .int .i64 a1] w fun e w' => ∃ v1 v4 v5 v6, e = .returned (.agg #[.string r1, v1, .string r3, .string r4, v4, v5, v6, .string r8]) ∧ OwnT w' base v1 v4 v5 v6 r2 r5 r6 r7 ∧ Below base w w' ∧ ∀ k, k < w.heap.size → some k ≠ (Value.slice A4 l4.length c4).ownBlock → some k ≠ (Value.slice A5 l5.length c5).ownBlock → some k ≠ (Value.slice A6 l6.length c6).ownBlock → w'.heap[k]? = w.heap[k]? := by
  unfold r6_spoilt.f at h
  by_cases hq : l4.length ≤ 1000 ∧ l5.length ≤ 1000 ∧ l6.length ≤ 1000
  case neg => rw [if_neg hq] at h; cases h
  rw [if_pos hq] at h
  have T : ∀ n : Int, a1 = n → (a1 == n) = true := fun n e => beq_iff_eq.2 e
  have N : ∀ n : Int, ¬ a1 = n → (a1 == n) = false := fun n e => beq_eq_false_iff_ne.2 e
  have fin : ∀ (e : Ending) (w' : World) (u0 u2 u7 : ByteArray), (e = .returned (.agg #[.string u0, .slice A1 l1.length c1, .string u2, .string x3, .slice A4 l4.length c4, .slice A5 l5.length c5, .slice A6 l6.length c6, .string u7]) ∧ Below w.heap.size w w') → (u0, l1, u2, x3, l4, l5, l6, u7) = (r1, r2, r3, r4, r5, r6, r7, r8) →
      ∃ v1 v4 v5 v6, e = .returned (.agg #[.string r1, v1, .string r3, .string r4, v4, v5, v6, .string r8]) ∧ OwnT w' base v1 v4 v5 v6 r2 r5 r6 r7 ∧ Below base w w' ∧ ∀ k, k < w.heap.size → some k ≠ (Value.slice A4 l4.length c4).ownBlock → some k ≠ (Value.slice A5 l5.length c5).ownBlock → some k ≠ (Value.slice A6 l6.length c6).ownBlock → w'.heap[k]? = w.heap[k]? := by
    intro e w' u0 u2 u7 hw hr
    simp only [Prod.mk.injEq] at hr
    obtain ⟨rfl, rfl, rfl, rfl, rfl, rfl, rfl, rfl⟩ := hr
    exact ⟨_, _, _, _, hw.1, ho.below hw.2, below_lower hw.2 hbase, fun k hk _ _ _ => hw.2.block k hk⟩
  by_cases q1 : a1 = 1
  · rw [if_pos q1] at h
    refine (spoilt_1 x0 x2 x3 x7 A1 c1 l1 A4 c4 l4 A5 c5 l5 A6 c6 l6 a1 w base hbase ho hq.1 (T 1 q1)).mono fun e w' ⟨A, c, he, hO, hB, hK⟩ => ?_
    simp only [Option.some.injEq, Prod.mk.injEq] at h
    obtain ⟨rfl, rfl, rfl, rfl, rfl, rfl, rfl, rfl⟩ := h
    exact ⟨_, _, _, _, he, hO, hB, fun k hk h4 h5 h6 => hK k hk h4⟩
  rw [if_neg q1] at h
  by_cases q2 : a1 = 2
  · rw [if_pos q2] at h
    obtain ⟨t, ht, h⟩ := Option.bind_eq_some_iff.1 h
    exact (spoilt_2 k x0 x2 x3 x7 A1 l1.length c1 A4 l4.length c4 A5 l5.length c5 A6 l6.length c6 t a1 w (N 1 q1) (T 2 q2) ht).mono fun e w' hw => fin e w' _ _ _ hw (Option.some.inj h)
  rw [if_neg q2] at h
  by_cases q3 : a1 = 3
  · rw [if_pos q3] at h
    refine (spoilt_3 x0 x2 x3 x7 A1 c1 l1 A4 c4 l4 A5 c5 l5 A6 c6 l6 a1 w base hbase ho hq.2.1 (N 1 q1) (N 2 q2) (T 3 q3)).mono fun e w' ⟨A, c, he, hO, hB, hK⟩ => ?_
    simp only [Option.some.injEq, Prod.mk.injEq] at h
    obtain ⟨rfl, rfl, rfl, rfl, rfl, rfl, rfl, rfl⟩ := h
    exact ⟨_, _, _, _, he, hO, hB, fun k hk h4 h5 h6 => hK k hk h5⟩
  rw [if_neg q3] at h
  by_cases q4 : a1 = 4
  · rw [if_pos q4] at h
    exact (spoilt_4 x0 x2 x3 x7 A1 l1.length c1 A4 l4.length c4 A5 l5.length c5 A6 l6.length c6 a1 w (N 1 q1) (N 2 q2) (N 3 q3) (T 4 q4)).mono fun e w' hw => fin e w' _ _ _ hw (Option.some.inj h)
  rw [if_neg q4] at h
  by_cases q5 : a1 = 5
  · rw [if_pos q5] at h
    exact (spoilt_5 x0 x2 x3 x7 A1 l1.length c1 A4 l4.length c4 A5 l5.length c5 A6 l6.length c6 a1 w (N 1 q1) (N 2 q2) (N 3 q3) (N 4 q4) (T 5 q5)).mono fun e w' hw => fin e w' _ _ _ hw (Option.some.inj h)
  rw [if_neg q5] at h
  by_cases q6 : a1 = 6
  · rw [if_pos q6] at h
    refine (spoilt_6 x0 x2 x3 x7 A1 c1 l1 A4 c4 l4 A5 c5 l5 A6 c6 l6 a1 w base hbase ho hq.2.2 (N 1 q1) (N 2 q2) (N 3 q3) (N 4 q4) (N 5 q5) (T 6 q6)).mono fun e w' ⟨A, c, he, hO, hB, hK⟩ => ?_
    simp only [Option.some.injEq, Prod.mk.injEq] at h
    obtain ⟨rfl, rfl, rfl, rfl, rfl, rfl, rfl, rfl⟩ := h
    exact ⟨_, _, _, _, he, hO, hB, fun k hk h4 h5 h6 => hK k hk h6⟩
  rw [if_neg q6] at h
  by_cases q7 : a1 = 7
  · rw [if_pos q7] at h
    refine (spoilt_7 x0 x2 x3 x7 A1 c1 l1 A4 c4 l4 A5 c5 l5 A6 c6 l6 a1 w base hbase ho hq.2.1 (N 1 q1) (N 2 q2) (N 3 q3) (N 4 q4) (N 5 q5) (N 6 q6) (T 7 q7)).mono fun e w' ⟨A, c, he, hO, hB, hK⟩ => ?_
    simp only [Option.some.injEq, Prod.mk.injEq] at h
    obtain ⟨rfl, rfl, rfl, rfl, rfl, rfl, rfl, rfl⟩ := h
    exact ⟨_, _, _, _, he, hO, hB, fun k hk h4 h5 h6 => hK k hk h5⟩
  rw [if_neg q7] at h
  by_cases q8 : a1 = 8
  · rw [if_pos q8] at h
    exact (spoilt_8 x0 x2 x3 x7 A1 l1.length c1 A4 l4.length c4 A5 l5.length c5 A6 l6.length c6 a1 w (N 1 q1) (N 2 q2) (N 3 q3) (N 4 q4) (N 5 q5) (N 6 q6) (N 7 q7) (T 8 q8)).mono fun e w' hw => fin e w' _ _ _ hw (Option.some.inj h)
  rw [if_neg q8] at h
  exact (spoilt_9 x0 x2 x3 x7 A1 l1.length c1 A4 l4.length c4 A5 l5.length c5 A6 l6.length c6 a1 w (N 1 q1) (N 2 q2) (N 3 q3) (N 4 q4) (N 5 q5) (N 6 q6) (N 7 q7) (N 8 q8)).mono fun e w' hw => fin e w' _ _ _ hw (Option.some.inj h)
end Go.Proofs.YtejnfbfikadpdaaGreatDoor.P
