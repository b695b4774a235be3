/- fault.Whats, walked by hand. Condition: a chain has at most a million faults. -/
import Derived.Test.YtejnfbfikadpdaaGreatDoorProg
import Derived.Test.YtejnfbfikadpdaaGreatDoorHand1
import Derived.Lib.Hide
import Derived.RangeFuncWrites
import Derived.WalkLawsBesides
import Derived.WalkMore
import Derived.RangeFuncNested
import Derived.RangeFuncBound
import Derived.RangeFuncCalls
import Derived.RangeFuncLeaves
import Derived.RangeFuncBox
import Derived.Shelf.Abstract
import Derived.Shelf.RegionOpen
import Derived.WalkKit
import Derived.OwnWalkIn
import Derived.TacticsInMore
import Derived.LoopNIn
import Derived.LoopIn
import Derived.Maps.AppendAt
import Derived.Test.YtejnfbfikadpdaaGreatDoorWWords
import Derived.RangeFuncFrom
import Derived.RangeFuncOwn
import Derived.Test.YtejnfbfikadpdaaGreatDoorHandErr
namespace Go.Proofs.YtejnfbfikadpdaaGreatDoor.P
open Go.RowKit Go.Shelf Go.Proofs.YtejnfbfikadpdaaGreatDoorW.PrintWords Go.Proofs.YtejnfbfikadpdaaGreatDoor
set_option linter.unusedVariables false
attribute [local go_sem] Oper.semAt_some
def Marks (n₀ : Nat) (W : World) : List Deferred → Prop
  | [] => True
  | d :: ds => (∃ r, d = { target := .collected r, args := #[] } ∧ n₀ ≤ r ∧ W.heap[r]? = some (.deferred (some [])) ∧ ∀ d' ∈ ds, ∃ q, d' = { target := .collected q, args := #[] } ∧ q < r) ∧ Marks n₀ W ds
theorem Marks.same {n₀ : Nat} {W W' : World} : ∀ {ds : List Deferred}, Marks n₀ W ds → (∀ r, n₀ ≤ r → W.heap[r]? = some (.deferred (some [])) → ({ target := .collected r, args := #[] } : Deferred) ∈ ds → W'.heap[r]? = some (.deferred (some []))) → Marks n₀ W' ds
  | [], _, _ => trivial
  | d :: ds, h, hk => by
    obtain ⟨⟨r, rfl, h1, h2, h3⟩, h4⟩ := h
    exact ⟨⟨r, rfl, h1, hk r h1 h2 (by simp), h3⟩, h4.same fun q hq1 hq2 hq3 => hk q hq1 hq2 (List.mem_cons_of_mem _ hq3)⟩
theorem Marks.below {n₀ : Nat} {W W' : World} {ds : List Deferred} (h : Marks n₀ W ds) (hb : Below W.heap.size W W') : Marks n₀ W' ds :=
  h.same fun r _ h2 _ => (hb.block r (Array.getElem?_eq_some_iff.1 h2).1).trans h2
theorem Marks.keeps {n₀ : Nat} {W W' : World} {ds : List Deferred} (h : Marks n₀ W ds) (hb : KeepsOthers W W') : Marks n₀ W' ds :=
  h.same fun r _ h2 _ => hb.same r _ h2 rfl
theorem Marks.cons {n₀ : Nat} {W : World} {ds : List Deferred} (h : Marks n₀ W ds) {D : Nat} (hD : n₀ ≤ D) (hw : W.heap[D]? = some (.deferred (some []))) (hlt : ∀ d' ∈ ds, ∃ q, d' = { target := .collected q, args := #[] } ∧ q < D) : Marks n₀ W ({ target := .collected D, args := #[] } :: ds) :=
  ⟨⟨D, rfl, hD, hw, hlt⟩, h⟩
theorem Marks.lt {n₀ : Nat} {W : World} : ∀ {ds : List Deferred}, Marks n₀ W ds → ∀ d' ∈ ds, ∃ q, d' = ({ target := .collected q, args := #[] } : Deferred) ∧ q < W.heap.size
  | [], _, d', hd => by cases hd
  | d :: ds, h, d', hd => by
    obtain ⟨⟨r, rfl, h1, h2, h3⟩, h4⟩ := h
    rcases List.mem_cons.1 hd with rfl | hd
    · exact ⟨r, rfl, (Array.getElem?_eq_some_iff.1 h2).1⟩
    · exact h4.lt d' hd
theorem ReadsOf.set {α : Type} {enc : α → Value} {d : α} {W : World} {A : Option Addr} {n : Nat} {xs : List α} (h : ReadsOf enc d W A n xs) {B : Nat} {v : Value} (hA : ∀ ad, A = some ad → 0 < n → ad.block ≠ B) : ReadsOf enc d (W.setCell ⟨B, 0, none⟩ v) A n xs :=
  ⟨h.1, h.2.1, fun hn => by
    obtain ⟨ad, e, hc⟩ := h.2.2 hn
    refine ⟨ad, e, fun q hq => ?_⟩
    rw [World.cell?_setCell_other _ _ _ _ (fun x => hA ad e hn (by have := congrArg Addr.block x; simp only [add_block] at this; exact this.symm))]
    exact hc q hq⟩
theorem boxed_app2 {W w1 : World} {n₀ b0 B : Nat} {t e : TypeId} {size : Nat} {v v' : Value} {k m : Nat} {xs ys : List Value} {tmp : Obj}
    (hv : Boxed W B t v) (hBb : B < b0) (hrow : W.ownsRow b0 e size v k xs) (hb0 : b0 ≤ W.heap.size) (hB : n₀ ≤ B)
    (hown' : w1.ownsRow b0 e size v' m ys) (hgrow : (W.alloc tmp).grownBy w1 v.ownBlock) :
    Boxed w1 B t v ∧ Boxed (w1.setCell ⟨B, 0, none⟩ v') B t v' ∧ (w1.setCell ⟨B, 0, none⟩ v').ownsRow b0 e size v' m ys ∧ KeepsOthers W (w1.setCell ⟨B, 0, none⟩ v') ∧ Below n₀ W (w1.setCell ⟨B, 0, none⟩ v') ∧
      ∀ B1, B1 < b0 → B1 ≠ B → (w1.setCell ⟨B, 0, none⟩ v').heap[B1]? = W.heap[B1]? := by
  have hne : ∀ j, j < b0 → some j ≠ v.ownBlock := fun j hj e => by have := own_base hrow j e.symm; omega
  have hne' : ∀ j, j < b0 → some j ≠ v'.ownBlock := fun j hj e => by have := own_base hown' j e.symm; omega
  have hv1 : Boxed w1 B t v := (hv.alloc tmp).kept hgrow (hne B hBb)
  refine ⟨hv1, hv1.set v', hown'.kept (grownBy_setCell' w1 B v') (.inr (hne' B hBb).symm), ?_, ?_, ?_⟩
  · refine ((KeepsOthers.alloc W tmp).trans (KeepsOthers.of_grownBy hgrow fun j o ej hj => ?_)).trans (KeepsOthers.setCell _ _ _)
    rcases (hrow.alloc tmp).2 with ⟨rfl, _⟩ | ⟨g, cap, cur, rfl, _, hgb, _⟩
    · simp [Value.ownBlock] at ej
    · obtain rfl : g = j := by simpa [Value.ownBlock] using ej
      rw [hgb] at hj; cases hj; rfl
  · refine (((Below.refl n₀ W).alloc (by omega) tmp).grown hgrow (by simp; omega) fun j ej => ?_).setCell (p := ⟨B, 0, none⟩) hB v'
    have := own_base hrow j ej; omega
  · intro B1 h1 h2
    rw [Below.heap_setCell w1 ⟨B, 0, none⟩ v' B1 h2, hgrow.block B1 (by rw [World.size_alloc]; omega) (hne B1 h1), Below.heap_alloc W tmp B1 (by omega)]
theorem hinfoS : (Tryz.prog.info? 9).map (fun i => (i.zero, i.size, i.bytes)) = some (some (.string ⟨#[]⟩), 1, 16) := by kernel_rfl
end Go.Proofs.YtejnfbfikadpdaaGreatDoor.P
namespace Go.Proofs.YtejnfbfikadpdaaGreatDoor.P
open Go.RowKit Go.Shelf Go.Proofs.YtejnfbfikadpdaaGreatDoorW.PrintWords Go.Proofs.YtejnfbfikadpdaaGreatDoor
set_option linter.unusedVariables false
attribute [local go_sem] Oper.semAt_some
theorem stepIn_append_own {F : Fence} {n : Nat} {P : Program} (w : World) {ops : Array Oper} {o : Oper} {a : Act} {Q : Exit → Act → World → Prop} {K : Act → World → Prop} {E : Prop}
    (hg : o.guard = none) (s x : Operand) (t : TypeId) (hop : o.op = Op.call { callee := Callee.builtin Builtin.append, args := #[s, x], argTypes := #[t, t] })
    (base : Nat) (e : TypeId) (i : TypeInfo) (z : Value) (size bytes : Nat) (h1 : P.underlying t = some (.slice e)) (h2 : P.info? e = some i) (h3 : i.zero = some z) (h4 : i.size = size) (h5 : i.bytes = bytes) (h6 : z.cells.size = size) (h7 : 0 < size)
    (v : Value) (k : Nat) (xs : List Value) (hs : a.eval s = v) (hown : w.ownsRow base e size v k xs) (ad : Addr) (m c : Nat) (news : List Value) (hx : a.eval x = .slice (some ad) m c) (hn : news.length = m * size)
    (hc : ∀ j u, news[j]? = some u → w.cell? (ad.add j) = some u) (h1c : ∀ u ∈ news, u.oneCell' = true) (b1 : k + m ≤ maxLen) (b2 : (k + m) * bytes ≤ 140737488355328) (b3 : base ≤ w.heap.size)
    (hK : ∀ v' w', w'.ownsRow base e size v' (k + m) (xs ++ news) → w.grownBy w' v.ownBlock → (v' = .slice none 0 0 ↔ v = .slice none 0 0 ∧ m = 0) → K (a.put o.dst v') w') :
    if Region.wanted o (yielded ops a.tmps) = true then Oper.wpIn F n P o a w K Q else E := by
  have hw : Region.wanted o (yielded ops a.tmps) = true := by simp [Region.wanted, hg]
  rw [if_pos hw]
  obtain ⟨v', w', hrun, r1, r2, r3⟩ := run_append_own (P := P) w base t o.type e i z size bytes h1 h2 h3 h4 h5 h6 h7 v k xs hown ad m c news hn hc h1c b1 b2 b3
  unfold Oper.wpIn
  refine ⟨?_, ?_⟩
  · simp [Oper.about, hop, resolve, Target.leads, Sem.run_pure]
  · rw [Oper.semAt_plain F _ _ (by rw [hop]; intro c hc'; cases hc')]
    simp [execOp, hop, resolve, invoke, builtin, hs, hx, hrun, Result.andThen]
    exact hK v' w' r1 r2 r3
def whatsOf (L : List (Nat × Int × ByteArray)) : List ByteArray := L.map (·.2.2)
set_option maxRecDepth 100000 in
set_option maxHeartbeats 4000000 in
theorem Whats_calls (e : Value) (L : List (Nat × Int × ByteArray)) (k : Option Int) (w : World) (hE : Err w e L k) (hl : L.length ≤ 1000000) :
    Calls Tryz.prog 62 #[e] w fun ev w' => ∃ v, ev = .returned v ∧ Kd.R Kd.string 9 w' w.heap.size (fun _ => True) v (whatsOf L) ∧ Below w.heap.size w w' := by
  refine (callsIn_wide (n := 3)).1 ?_
  obtain ⟨i0, hi, hz0, hz1, hz2⟩ := info_parts hinfoS
  refine callsIn_of_wp_marks Tryz.func62 rfl trivial ?_ rfl
  simp only [Tryz.ntmps62, List.size_toArray, List.length_cons, List.length_nil, Nat.reduceAdd, Nat.reduceSub, Array.replicate_succ, Array.replicate_zero, List.push_toArray, List.append_toArray, List.nil_append, List.cons_append]
  have HE := Lib.hid hE
  clear hE
  have hmix : Tryz.prog.follows .mixedOrders = true := by kernel_rfl
  gi_wp2_with (refine ⟨trivial, ?_⟩; gi_at_call 59; refine (faults_in Fence.wide (3 - 1) trivial rfl _ HE.out.isIface _).mono ?_; rintro e_ w' ⟨rfl, rfl⟩)
  have bO := Boxed.new w 26 (.slice none 0 0)
  have bN := Boxed.new (w.alloc (.cells #[.slice none 0 0] 26)) 33 e
  rw [World.size_alloc] at bN
  have hB0 : Below w.heap.size w ((w.alloc (.cells #[.slice none 0 0] 26)).alloc (.cells #[e] 33)) := ((Below.refl _ w).alloc (Nat.le_refl _) _).alloc (by simp) _
  refine wpIn_rangeFunc_ownG (F := Fence.wide) rfl (by decide) (gf := 95) (lb := #[.pointer (some ⟨w.heap.size + 1, 0, none⟩)]) rfl trivial (enters_of Tryz.func95 (by kernel_rfl) rfl)
    (faults_stops (3 - 1) (by decide) (w.heap.size + 1) e L k _ (by simp) bN.cell (HE.out.keeps hB0)) KeepsF.trans keepsF_b (Below.refl _ _) (fun _ => rfl)
    (fun (pre : List (Fx L)) W => (∃ v, Boxed W w.heap.size 26 v ∧ W.ownsRow (w.heap.size + 2) 9 1 v pre.length (pre.map (fun x => Value.string x.1.2.2)) ∧ True) ∧ Below w.heap.size w W ∧ w.heap.size + 2 ≤ W.heap.size)
    (fun _ _ _ => False)
    (OwnFrom.and (Own.from (holdsRow_own (w.heap.size + 2) w.heap.size 26 9 1 (fun (pre : List (Fx L)) => pre.length) (fun pre => pre.map (fun x => Value.string x.1.2.2)) (fun pre v => True)) _) (OwnFrom.and (ownFrom_below (Nat.le_refl _) (by simp; omega)) (fun _ _ _ _ h hg _ => Nat.le_trans h hg.size)))
    (fun _ _ _ _ _ hs _ _ => hs)
    ⟨⟨_, bO.alloc _, World.ownsRow_nil _ _ _ _, trivial⟩, hB0, by simp⟩
    (fun (x : Fx L) => { tmps := #[e, undef, .slice none 0 0, .pointer (some ⟨w.heap.size, 0, none⟩), .pointer (some ⟨x.1.1, 0, none⟩), e, .func (.func 95) #[] #[.pointer (some ⟨w.heap.size + 1, 0, none⟩)], .pointer (some ⟨x.1.1, 0, none⟩), undef, undef, undef, undef, undef, undef, undef, undef], defers := [] }) ?assign ?body ?done ?stop
  case assign =>
    intro l x W K hK
    gi_wp2
    exact hK
  case body =>
    rintro l pre x W ⟨⟨v, hv, hrow, _⟩, hB2, hsz⟩ hlt
    obtain ⟨inner, hf⟩ := HE.out.mem x.2
    have hf2 := hf.below hB2
    have ha := hf2.what
    have hxl := hf.lt
    have hc := hv.cell
    have hfz := hv.frozen
    gi_wp2
    refine wpIn_region_any (by assumption) ?_
    try (change wpAnyIn _ _ _ _ _ _ _ _ _ (World.drew _))
    have hrd : W.drew.ownsRow (w.heap.size + 2) 9 1 v pre.length (pre.map (fun x => Value.string x.1.2.2)) := hrow
    -- ORDERS
    have hvd : Boxed W.drew w.heap.size 26 v := hv
    have hszd : w.heap.size + 2 ≤ W.drew.heap.size := hsz
    have hlen2 : pre.length < 1000000 := by omega
    have hra : (W.alloc (.cells #[.string x.1.2.2] 9)).drew.ownsRow (w.heap.size + 2) 9 1 v pre.length (pre.map (fun x => Value.string x.1.2.2)) := hrow.alloc (.cells #[.string x.1.2.2] 9)
    have hc5 : (W.alloc (.cells #[.string x.1.2.2] 9)).drew.cell? ⟨w.heap.size, 0, none⟩ = some v := (hv.alloc (.cells #[.string x.1.2.2] 9)).cell
    have hca : ∀ (j : Nat) (u : Value), [Value.string x.1.2.2][j]? = some u → (W.alloc (.cells #[.string x.1.2.2] 9)).drew.cell? ((⟨W.heap.size, 0, none⟩ : Addr).add j) = some u := cell_one_new (w := W) _ 9
    refine wpAnyIn_ready (rs := [0, 1]) (by kernel_rfl) (by simp) ?_
    refine AllReadyIn.cons rfl (fun K hK => ?_) ?_
    · skip
      go_simp
      refine hK _ _ ?_
      clear hK K
      refine wpAnyIn_ready (rs := [1]) (by kernel_rfl) (by simp) ?_
      refine AllReadyIn.cons rfl (fun K hK => ?_) ?_
      · skip
        go_simp
        refine hK _ _ ?_
        clear hK K
        refine wpAnyIn_ready (rs := [2]) (by kernel_rfl) (by simp) ?_
        refine AllReadyIn.cons rfl (fun K hK => ?_) ?_
        · skip
          go_simp
          refine hK _ _ ?_
          clear hK K
          refine wpAnyIn_ready (rs := [3]) (by kernel_rfl) (by simp) ?_
          refine AllReadyIn.cons rfl (fun K hK => ?_) ?_
          · skip
            go_simp
            refine hK _ _ ?_
            clear hK K
            refine wpAnyIn_ready (rs := [4]) (by kernel_rfl) (by simp) ?_
            refine AllReadyIn.cons rfl (fun K hK => ?_) ?_
            · skip
              go_simp
              refine hK _ _ ?_
              clear hK K
              refine wpAnyIn_ready (rs := [5]) (by kernel_rfl) (by simp) ?_
              refine AllReadyIn.cons rfl (fun K hK => ?_) ?_
              · skip
                go_simp
                refine hK _ _ ?_
                clear hK K
                refine wpAnyIn_ready (rs := [6]) (by kernel_rfl) (by simp) ?_
                refine AllReadyIn.cons rfl (fun K hK => ?_) ?_
                · skip
                  refine stepIn_append_own _ rfl (.tmp 8) (.tmp 13) 26 rfl (w.heap.size + 2) 9 i0 (.string ⟨#[]⟩) 1 16 Tryz.underlying26 hi hz0 hz1 hz2 rfl (by decide) v pre.length (pre.map (fun x => Value.string x.1.2.2)) rfl hra ⟨W.heap.size, 0, none⟩ 1 1 [.string x.1.2.2] rfl rfl hca (by simp [Value.oneCell']) (by unfold maxLen; omega) (by omega) (by simp; omega) ?_
                  intro v' w1 hown' hgrow _
                  obtain ⟨g', cap', rfl⟩ := ownsRow_succ hown'
                  obtain ⟨hv1, hv2, hr2, hk2, hb2, hk1⟩ := boxed_app2 (n₀ := w.heap.size) (W := W.drew) (tmp := (.cells #[.string x.1.2.2] 9)) hvd (by omega) hrd hszd (Nat.le_refl _) hown' (show (W.drew.alloc (.cells #[.string x.1.2.2] 9)).grownBy _ _ from hgrow)
                  have hc1 := hv1.cell
                  have hf1 := hv1.frozen
                  refine hK _ _ ?_
                  clear hK K
                  refine wpAnyIn_ready (rs := [7]) (by kernel_rfl) (by simp) ?_
                  refine AllReadyIn.cons rfl (fun K hK => ?_) ?_
                  · skip
                    go_simp
                    refine hK _ _ ?_
                    clear hK K
                    refine wpAnyIn_done (by kernel_rfl) ?_ _
                    try gi_wp2
                    have hkf : KeepsF L W _ := fun y hy j v0 h0 => by
                      obtain ⟨_, hyf⟩ := HE.out.mem hy
                      have hyl := hyf.lt
                      have := hk1 y.1 (by omega) (by omega)
                      unfold World.cell? at h0 ⊢
                      rw [this]; exact h0
                    exact ⟨(KeepsOthers.trans (⟨Nat.le_refl _, fun _ _ h _ => h⟩ : KeepsOthers W W.drew) hk2).from _, hkf, ⟨_, hv2, by simpa using hr2, trivial⟩, (below_drew hB2).trans hb2, (by have h1 := hk2.1; have h2 : W.drew.heap.size = W.heap.size := rfl; omega)⟩
                  exact AllReadyIn.nil
                exact AllReadyIn.nil
              exact AllReadyIn.nil
            exact AllReadyIn.nil
          exact AllReadyIn.nil
        exact AllReadyIn.nil
      exact AllReadyIn.nil
    refine AllReadyIn.cons rfl (fun K hK => ?_) ?_
    · skip
      go_simp
      refine hK _ _ ?_
      clear hK K
      refine wpAnyIn_ready (rs := [0, 2]) (by kernel_rfl) (by simp) ?_
      refine AllReadyIn.cons rfl (fun K hK => ?_) ?_
      · skip
        go_simp
        refine hK _ _ ?_
        clear hK K
        refine wpAnyIn_ready (rs := [2]) (by kernel_rfl) (by simp) ?_
        refine AllReadyIn.cons rfl (fun K hK => ?_) ?_
        · skip
          go_simp
          refine hK _ _ ?_
          clear hK K
          refine wpAnyIn_ready (rs := [3]) (by kernel_rfl) (by simp) ?_
          refine AllReadyIn.cons rfl (fun K hK => ?_) ?_
          · skip
            go_simp
            refine hK _ _ ?_
            clear hK K
            refine wpAnyIn_ready (rs := [4]) (by kernel_rfl) (by simp) ?_
            refine AllReadyIn.cons rfl (fun K hK => ?_) ?_
            · skip
              go_simp
              refine hK _ _ ?_
              clear hK K
              refine wpAnyIn_ready (rs := [5]) (by kernel_rfl) (by simp) ?_
              refine AllReadyIn.cons rfl (fun K hK => ?_) ?_
              · skip
                go_simp
                refine hK _ _ ?_
                clear hK K
                refine wpAnyIn_ready (rs := [6]) (by kernel_rfl) (by simp) ?_
                refine AllReadyIn.cons rfl (fun K hK => ?_) ?_
                · skip
                  refine stepIn_append_own _ rfl (.tmp 8) (.tmp 13) 26 rfl (w.heap.size + 2) 9 i0 (.string ⟨#[]⟩) 1 16 Tryz.underlying26 hi hz0 hz1 hz2 rfl (by decide) v pre.length (pre.map (fun x => Value.string x.1.2.2)) rfl hra ⟨W.heap.size, 0, none⟩ 1 1 [.string x.1.2.2] rfl rfl hca (by simp [Value.oneCell']) (by unfold maxLen; omega) (by omega) (by simp; omega) ?_
                  intro v' w1 hown' hgrow _
                  obtain ⟨g', cap', rfl⟩ := ownsRow_succ hown'
                  obtain ⟨hv1, hv2, hr2, hk2, hb2, hk1⟩ := boxed_app2 (n₀ := w.heap.size) (W := W.drew) (tmp := (.cells #[.string x.1.2.2] 9)) hvd (by omega) hrd hszd (Nat.le_refl _) hown' (show (W.drew.alloc (.cells #[.string x.1.2.2] 9)).grownBy _ _ from hgrow)
                  have hc1 := hv1.cell
                  have hf1 := hv1.frozen
                  refine hK _ _ ?_
                  clear hK K
                  refine wpAnyIn_ready (rs := [7]) (by kernel_rfl) (by simp) ?_
                  refine AllReadyIn.cons rfl (fun K hK => ?_) ?_
                  · skip
                    go_simp
                    refine hK _ _ ?_
                    clear hK K
                    refine wpAnyIn_done (by kernel_rfl) ?_ _
                    try gi_wp2
                    have hkf : KeepsF L W _ := fun y hy j v0 h0 => by
                      obtain ⟨_, hyf⟩ := HE.out.mem hy
                      have hyl := hyf.lt
                      have := hk1 y.1 (by omega) (by omega)
                      unfold World.cell? at h0 ⊢
                      rw [this]; exact h0
                    exact ⟨(KeepsOthers.trans (⟨Nat.le_refl _, fun _ _ h _ => h⟩ : KeepsOthers W W.drew) hk2).from _, hkf, ⟨_, hv2, by simpa using hr2, trivial⟩, (below_drew hB2).trans hb2, (by have h1 := hk2.1; have h2 : W.drew.heap.size = W.heap.size := rfl; omega)⟩
                  exact AllReadyIn.nil
                exact AllReadyIn.nil
              exact AllReadyIn.nil
            exact AllReadyIn.nil
          exact AllReadyIn.nil
        exact AllReadyIn.nil
      refine AllReadyIn.cons rfl (fun K hK => ?_) ?_
      · skip
        go_simp
        refine hK _ _ ?_
        clear hK K
        refine wpAnyIn_ready (rs := [0, 3]) (by kernel_rfl) (by simp) ?_
        refine AllReadyIn.cons rfl (fun K hK => ?_) ?_
        · skip
          go_simp
          refine hK _ _ ?_
          clear hK K
          refine wpAnyIn_ready (rs := [3]) (by kernel_rfl) (by simp) ?_
          refine AllReadyIn.cons rfl (fun K hK => ?_) ?_
          · skip
            go_simp
            refine hK _ _ ?_
            clear hK K
            refine wpAnyIn_ready (rs := [4]) (by kernel_rfl) (by simp) ?_
            refine AllReadyIn.cons rfl (fun K hK => ?_) ?_
            · skip
              go_simp
              refine hK _ _ ?_
              clear hK K
              refine wpAnyIn_ready (rs := [5]) (by kernel_rfl) (by simp) ?_
              refine AllReadyIn.cons rfl (fun K hK => ?_) ?_
              · skip
                go_simp
                refine hK _ _ ?_
                clear hK K
                refine wpAnyIn_ready (rs := [6]) (by kernel_rfl) (by simp) ?_
                refine AllReadyIn.cons rfl (fun K hK => ?_) ?_
                · skip
                  refine stepIn_append_own _ rfl (.tmp 8) (.tmp 13) 26 rfl (w.heap.size + 2) 9 i0 (.string ⟨#[]⟩) 1 16 Tryz.underlying26 hi hz0 hz1 hz2 rfl (by decide) v pre.length (pre.map (fun x => Value.string x.1.2.2)) rfl hra ⟨W.heap.size, 0, none⟩ 1 1 [.string x.1.2.2] rfl rfl hca (by simp [Value.oneCell']) (by unfold maxLen; omega) (by omega) (by simp; omega) ?_
                  intro v' w1 hown' hgrow _
                  obtain ⟨g', cap', rfl⟩ := ownsRow_succ hown'
                  obtain ⟨hv1, hv2, hr2, hk2, hb2, hk1⟩ := boxed_app2 (n₀ := w.heap.size) (W := W.drew) (tmp := (.cells #[.string x.1.2.2] 9)) hvd (by omega) hrd hszd (Nat.le_refl _) hown' (show (W.drew.alloc (.cells #[.string x.1.2.2] 9)).grownBy _ _ from hgrow)
                  have hc1 := hv1.cell
                  have hf1 := hv1.frozen
                  refine hK _ _ ?_
                  clear hK K
                  refine wpAnyIn_ready (rs := [7]) (by kernel_rfl) (by simp) ?_
                  refine AllReadyIn.cons rfl (fun K hK => ?_) ?_
                  · skip
                    go_simp
                    refine hK _ _ ?_
                    clear hK K
                    refine wpAnyIn_done (by kernel_rfl) ?_ _
                    try gi_wp2
                    have hkf : KeepsF L W _ := fun y hy j v0 h0 => by
                      obtain ⟨_, hyf⟩ := HE.out.mem hy
                      have hyl := hyf.lt
                      have := hk1 y.1 (by omega) (by omega)
                      unfold World.cell? at h0 ⊢
                      rw [this]; exact h0
                    exact ⟨(KeepsOthers.trans (⟨Nat.le_refl _, fun _ _ h _ => h⟩ : KeepsOthers W W.drew) hk2).from _, hkf, ⟨_, hv2, by simpa using hr2, trivial⟩, (below_drew hB2).trans hb2, (by have h1 := hk2.1; have h2 : W.drew.heap.size = W.heap.size := rfl; omega)⟩
                  exact AllReadyIn.nil
                exact AllReadyIn.nil
              exact AllReadyIn.nil
            exact AllReadyIn.nil
          exact AllReadyIn.nil
        refine AllReadyIn.cons rfl (fun K hK => ?_) ?_
        · skip
          go_simp
          refine hK _ _ ?_
          clear hK K
          refine wpAnyIn_ready (rs := [0, 4]) (by kernel_rfl) (by simp) ?_
          refine AllReadyIn.cons rfl (fun K hK => ?_) ?_
          · skip
            go_simp
            refine hK _ _ ?_
            clear hK K
            refine wpAnyIn_ready (rs := [4]) (by kernel_rfl) (by simp) ?_
            refine AllReadyIn.cons rfl (fun K hK => ?_) ?_
            · skip
              go_simp
              refine hK _ _ ?_
              clear hK K
              refine wpAnyIn_ready (rs := [5]) (by kernel_rfl) (by simp) ?_
              refine AllReadyIn.cons rfl (fun K hK => ?_) ?_
              · skip
                go_simp
                refine hK _ _ ?_
                clear hK K
                refine wpAnyIn_ready (rs := [6]) (by kernel_rfl) (by simp) ?_
                refine AllReadyIn.cons rfl (fun K hK => ?_) ?_
                · skip
                  refine stepIn_append_own _ rfl (.tmp 8) (.tmp 13) 26 rfl (w.heap.size + 2) 9 i0 (.string ⟨#[]⟩) 1 16 Tryz.underlying26 hi hz0 hz1 hz2 rfl (by decide) v pre.length (pre.map (fun x => Value.string x.1.2.2)) rfl hra ⟨W.heap.size, 0, none⟩ 1 1 [.string x.1.2.2] rfl rfl hca (by simp [Value.oneCell']) (by unfold maxLen; omega) (by omega) (by simp; omega) ?_
                  intro v' w1 hown' hgrow _
                  obtain ⟨g', cap', rfl⟩ := ownsRow_succ hown'
                  obtain ⟨hv1, hv2, hr2, hk2, hb2, hk1⟩ := boxed_app2 (n₀ := w.heap.size) (W := W.drew) (tmp := (.cells #[.string x.1.2.2] 9)) hvd (by omega) hrd hszd (Nat.le_refl _) hown' (show (W.drew.alloc (.cells #[.string x.1.2.2] 9)).grownBy _ _ from hgrow)
                  have hc1 := hv1.cell
                  have hf1 := hv1.frozen
                  refine hK _ _ ?_
                  clear hK K
                  refine wpAnyIn_ready (rs := [7]) (by kernel_rfl) (by simp) ?_
                  refine AllReadyIn.cons rfl (fun K hK => ?_) ?_
                  · skip
                    go_simp
                    refine hK _ _ ?_
                    clear hK K
                    refine wpAnyIn_done (by kernel_rfl) ?_ _
                    try gi_wp2
                    have hkf : KeepsF L W _ := fun y hy j v0 h0 => by
                      obtain ⟨_, hyf⟩ := HE.out.mem hy
                      have hyl := hyf.lt
                      have := hk1 y.1 (by omega) (by omega)
                      unfold World.cell? at h0 ⊢
                      rw [this]; exact h0
                    exact ⟨(KeepsOthers.trans (⟨Nat.le_refl _, fun _ _ h _ => h⟩ : KeepsOthers W W.drew) hk2).from _, hkf, ⟨_, hv2, by simpa using hr2, trivial⟩, (below_drew hB2).trans hb2, (by have h1 := hk2.1; have h2 : W.drew.heap.size = W.heap.size := rfl; omega)⟩
                  exact AllReadyIn.nil
                exact AllReadyIn.nil
              exact AllReadyIn.nil
            exact AllReadyIn.nil
          refine AllReadyIn.cons rfl (fun K hK => ?_) ?_
          · skip
            go_simp
            refine hK _ _ ?_
            clear hK K
            refine wpAnyIn_ready (rs := [0, 5]) (by kernel_rfl) (by simp) ?_
            refine AllReadyIn.cons rfl (fun K hK => ?_) ?_
            · skip
              go_simp
              refine hK _ _ ?_
              clear hK K
              refine wpAnyIn_ready (rs := [5]) (by kernel_rfl) (by simp) ?_
              refine AllReadyIn.cons rfl (fun K hK => ?_) ?_
              · skip
                go_simp
                refine hK _ _ ?_
                clear hK K
                refine wpAnyIn_ready (rs := [6]) (by kernel_rfl) (by simp) ?_
                refine AllReadyIn.cons rfl (fun K hK => ?_) ?_
                · skip
                  refine stepIn_append_own _ rfl (.tmp 8) (.tmp 13) 26 rfl (w.heap.size + 2) 9 i0 (.string ⟨#[]⟩) 1 16 Tryz.underlying26 hi hz0 hz1 hz2 rfl (by decide) v pre.length (pre.map (fun x => Value.string x.1.2.2)) rfl hra ⟨W.heap.size, 0, none⟩ 1 1 [.string x.1.2.2] rfl rfl hca (by simp [Value.oneCell']) (by unfold maxLen; omega) (by omega) (by simp; omega) ?_
                  intro v' w1 hown' hgrow _
                  obtain ⟨g', cap', rfl⟩ := ownsRow_succ hown'
                  obtain ⟨hv1, hv2, hr2, hk2, hb2, hk1⟩ := boxed_app2 (n₀ := w.heap.size) (W := W.drew) (tmp := (.cells #[.string x.1.2.2] 9)) hvd (by omega) hrd hszd (Nat.le_refl _) hown' (show (W.drew.alloc (.cells #[.string x.1.2.2] 9)).grownBy _ _ from hgrow)
                  have hc1 := hv1.cell
                  have hf1 := hv1.frozen
                  refine hK _ _ ?_
                  clear hK K
                  refine wpAnyIn_ready (rs := [7]) (by kernel_rfl) (by simp) ?_
                  refine AllReadyIn.cons rfl (fun K hK => ?_) ?_
                  · skip
                    go_simp
                    refine hK _ _ ?_
                    clear hK K
                    refine wpAnyIn_done (by kernel_rfl) ?_ _
                    try gi_wp2
                    have hkf : KeepsF L W _ := fun y hy j v0 h0 => by
                      obtain ⟨_, hyf⟩ := HE.out.mem hy
                      have hyl := hyf.lt
                      have := hk1 y.1 (by omega) (by omega)
                      unfold World.cell? at h0 ⊢
                      rw [this]; exact h0
                    exact ⟨(KeepsOthers.trans (⟨Nat.le_refl _, fun _ _ h _ => h⟩ : KeepsOthers W W.drew) hk2).from _, hkf, ⟨_, hv2, by simpa using hr2, trivial⟩, (below_drew hB2).trans hb2, (by have h1 := hk2.1; have h2 : W.drew.heap.size = W.heap.size := rfl; omega)⟩
                  exact AllReadyIn.nil
                exact AllReadyIn.nil
              exact AllReadyIn.nil
            refine AllReadyIn.cons rfl (fun K hK => ?_) ?_
            · skip
              go_simp
              refine hK _ _ ?_
              clear hK K
              refine wpAnyIn_ready (rs := [0]) (by kernel_rfl) (by simp) ?_
              refine AllReadyIn.cons rfl (fun K hK => ?_) ?_
              · skip
                go_simp
                refine hK _ _ ?_
                clear hK K
                refine wpAnyIn_ready (rs := [6]) (by kernel_rfl) (by simp) ?_
                refine AllReadyIn.cons rfl (fun K hK => ?_) ?_
                · skip
                  refine stepIn_append_own _ rfl (.tmp 8) (.tmp 13) 26 rfl (w.heap.size + 2) 9 i0 (.string ⟨#[]⟩) 1 16 Tryz.underlying26 hi hz0 hz1 hz2 rfl (by decide) v pre.length (pre.map (fun x => Value.string x.1.2.2)) rfl hra ⟨W.heap.size, 0, none⟩ 1 1 [.string x.1.2.2] rfl rfl hca (by simp [Value.oneCell']) (by unfold maxLen; omega) (by omega) (by simp; omega) ?_
                  intro v' w1 hown' hgrow _
                  obtain ⟨g', cap', rfl⟩ := ownsRow_succ hown'
                  obtain ⟨hv1, hv2, hr2, hk2, hb2, hk1⟩ := boxed_app2 (n₀ := w.heap.size) (W := W.drew) (tmp := (.cells #[.string x.1.2.2] 9)) hvd (by omega) hrd hszd (Nat.le_refl _) hown' (show (W.drew.alloc (.cells #[.string x.1.2.2] 9)).grownBy _ _ from hgrow)
                  have hc1 := hv1.cell
                  have hf1 := hv1.frozen
                  refine hK _ _ ?_
                  clear hK K
                  refine wpAnyIn_ready (rs := [7]) (by kernel_rfl) (by simp) ?_
                  refine AllReadyIn.cons rfl (fun K hK => ?_) ?_
                  · skip
                    go_simp
                    refine hK _ _ ?_
                    clear hK K
                    refine wpAnyIn_done (by kernel_rfl) ?_ _
                    try gi_wp2
                    have hkf : KeepsF L W _ := fun y hy j v0 h0 => by
                      obtain ⟨_, hyf⟩ := HE.out.mem hy
                      have hyl := hyf.lt
                      have := hk1 y.1 (by omega) (by omega)
                      unfold World.cell? at h0 ⊢
                      rw [this]; exact h0
                    exact ⟨(KeepsOthers.trans (⟨Nat.le_refl _, fun _ _ h _ => h⟩ : KeepsOthers W W.drew) hk2).from _, hkf, ⟨_, hv2, by simpa using hr2, trivial⟩, (below_drew hB2).trans hb2, (by have h1 := hk2.1; have h2 : W.drew.heap.size = W.heap.size := rfl; omega)⟩
                  exact AllReadyIn.nil
                exact AllReadyIn.nil
              exact AllReadyIn.nil
            exact AllReadyIn.nil
          exact AllReadyIn.nil
        exact AllReadyIn.nil
      exact AllReadyIn.nil
    exact AllReadyIn.nil
  case done =>
    rintro D ys W hD hys ⟨⟨v, hv, hrow, _⟩, hB, _⟩ hK
    have HY := Lib.hid hys
    clear hys
    have hc := hv.cell
    gi_wp2
    refine ⟨by simp, .inl ⟨_, _, rfl, run_takeDeferred hK, ?_⟩⟩
    refine ⟨_, results_tmp rfl _ _ _, v, rfl, ?_, hB.trans (belowK_b (w := w) (Nat.le_refl _) W D _ _ (by simp at hD; omega) hK rfl rfl)⟩
    have ho := ownsRow_putObj hrow (.deferred none) hK rfl
    refine Kd.R_of_own (enc := Value.string) ?_ (fun _ _ => trivial)
    unfold whatsOf
    rw [List.length_map, ← HY.out, List.length_map, List.map_map]
    have e : encs Value.string (ys.map ((·.2.2) ∘ (·.1))) = ys.map (fun x => Value.string x.1.2.2) := by unfold encs; rw [List.map_map]; rfl
    rw [e]
    exact own_weaken ho (by omega)
  case stop =>
    rintro D c pre W _ _ h _
    exact h.elim
end Go.Proofs.YtejnfbfikadpdaaGreatDoor.P
