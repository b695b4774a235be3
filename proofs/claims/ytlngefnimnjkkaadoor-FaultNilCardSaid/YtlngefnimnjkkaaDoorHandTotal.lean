/- fault.Total, walked by hand. No condition. -/
import Derived.Test.YtlngefnimnjkkaaDoorHandM
import Derived.Test.YtlngefnimnjkkaaDoorHandErr
namespace Go.Proofs.YtlngefnimnjkkaaDoor.P
open Go.RowKit Go.Extern.Stop Go.Stop Go.Extern Go.Shelf Go.Proofs.YtlngefnimnjkkaaDoorW.PrintWords Go.Proofs.YtlngefnimnjkkaaDoor
set_option linter.unusedVariables false
set_option linter.unusedSimpArgs false
attribute [local go_sem] Oper.semAt_some
theorem keepsOthers_drew (W : World) : KeepsOthers W W.drew := ⟨Nat.le_refl _, fun _ _ h _ => h⟩
/-- The sum of all places, as Go adds. -/
def totalFrom (s : Int) : List (Nat × Int × ByteArray) → Int
  | [] => s
  | x :: t => totalFrom (IntKind.i64.wrap (s + x.2.1)) t
theorem totalFrom_snoc : ∀ (l : List (Nat × Int × ByteArray)) (s : Int) (x : Nat × Int × ByteArray), totalFrom s (l ++ [x]) = IntKind.i64.wrap (totalFrom s l + x.2.1)
  | [], _, _ => rfl
  | y :: l, s, x => totalFrom_snoc l _ x
set_option maxRecDepth 100000 in
set_option maxHeartbeats 4000000 in
theorem Total_calls (e : Value) (L : List (Nat × Int × ByteArray)) (k : Option Int) (w : World) (hE : Err w e L k) :
    Calls Tryd.prog 14 #[e] w fun ev w' => ev = .returned (.int .i64 (totalFrom 0 L)) ∧ Below w.heap.size w w' := by
  refine (callsIn_wide (n := 3)).1 ?_
  refine callsIn_of_wp_marks Tryd.func14 rfl trivial ?_ rfl
  simp only [Tryd.ntmps14, List.size_toArray, List.length_cons, List.length_nil, Nat.reduceAdd, Nat.reduceSub, Array.replicate_succ, Array.replicate_zero, List.push_toArray, List.append_toArray, List.nil_append, List.cons_append]
  have HE := Lib.hid hE
  clear hE
  have hmix : Tryd.prog.follows .mixedOrders = true := by kernel_rfl
  gi_wp2_with (refine ⟨trivial, ?_⟩; gi_at_call 25; refine (faults_in Fence.wide (3 - 1) trivial rfl _ HE.out.isIface _).mono ?_; rintro e_ w' ⟨rfl, rfl⟩)
  have bO := Boxed.new w 3 (.int .i64 0)
  have bN := Boxed.new (w.alloc (.cells #[.int .i64 0] 3)) 29 e
  rw [World.size_alloc] at bN
  have hB0 : Below w.heap.size w ((w.alloc (.cells #[.int .i64 0] 3)).alloc (.cells #[e] 29)) := ((Below.refl _ w).alloc (Nat.le_refl _) _).alloc (by simp) _
  refine wpIn_rangeFunc_ownG (F := Fence.wide) rfl (by decide) (gf := 32) (lb := #[.pointer (some ⟨w.heap.size + 1, 0, none⟩)]) rfl trivial (enters_of Tryd.func32 (by kernel_rfl) rfl)
    (faults_stops (3 - 1) (by decide) (w.heap.size + 1) e L k _ (by simp) bN.cell (HE.out.keeps hB0)) KeepsF.trans keepsF_b (Below.refl _ _) (fun _ => rfl)
    (fun (pre : List (Fx L)) W => Boxed W w.heap.size 3 (.int .i64 (totalFrom 0 (pre.map (·.1)))) ∧ Below w.heap.size w W)
    (fun _ _ _ => False)
    (OwnFrom.and (Own.from (boxed_own _ _ (fun (pre : List (Fx L)) => Value.int .i64 (totalFrom 0 (pre.map (·.1))))) _) (ownFrom_below (Nat.le_refl _) (by simp; omega)))
    (fun _ _ _ _ _ hs _ _ => hs)
    ⟨bO.alloc _, hB0⟩
    (fun (x : Fx L) => { tmps := #[e, undef, .int .i64 0, .pointer (some ⟨w.heap.size, 0, none⟩), .pointer (some ⟨x.1.1, 0, none⟩), e, .func (.func 32) #[] #[.pointer (some ⟨w.heap.size + 1, 0, none⟩)], .pointer (some ⟨x.1.1, 0, none⟩), undef, undef, undef, undef, undef, undef, undef], defers := [] }) ?assign ?body ?done ?stop
  case assign =>
    intro l x V K hK
    gi_wp2
    exact hK
  case body =>
    rintro l pre x V ⟨hb, hbel⟩ hlen
    obtain ⟨inner, hf⟩ := HE.out.mem x.2
    have hf2 := hf.below hbel
    have ha := hf2.at_
    have hcr := hb.cell
    have hcf := hb.frozen
    have hlt := hf.lt
    have HB := Lib.hid hb
    have HBel := Lib.hid hbel
    clear hf hf2 hb hbel
    gi_wp2
    gi_region
    all_goals
      try gi_wp2
      refine ⟨((KeepsOthers.setCell _ _ _).trans (keepsOthers_drew _)).from _, ?_, ?_, below_drew (HBel.out.setCell (p := ⟨w.heap.size, 0, none⟩) (Nat.le_refl _) _)⟩
      · intro y hy j v0 h0
        obtain ⟨_, hyf⟩ := HE.out.mem hy
        have hyl := hyf.lt
        show (V.setCell ⟨w.heap.size, 0, none⟩ _).cell? _ = _
        rw [World.cell?_setCell_other _ _ _ _ (fun e => by have := congrArg Addr.block e; simp at this; omega)]
        exact h0
      · show Boxed (V.setCell ⟨w.heap.size, 0, none⟩ _) _ _ (.int .i64 (totalFrom 0 ((pre ++ [x]).map (·.1))))
        rw [List.map_append, List.map_cons, List.map_nil, totalFrom_snoc]
        exact HB.out.set _
  case done =>
    rintro D ys V hD hys ⟨hb, hbel⟩ hK
    have HY := Lib.hid hys
    have HK := Lib.hid hK
    have hcr := hb.cell
    clear hys
    gi_wp2
    refine ⟨by simp, .inl ⟨_, _, rfl, run_takeDeferred HK.out, ?_⟩⟩
    exact ⟨_, results_tmp rfl _ _ _, by rw [HY.out]; rfl, hbel.trans (belowK_b (w := w) (Nat.le_refl _) V D _ _ (by simp at hD; omega) HK.out rfl rfl)⟩
  case stop =>
    rintro D c pre V _ _ h _
    exact h.elim
end Go.Proofs.YtlngefnimnjkkaaDoor.P
