/- parse.Parse's deferred function, walked: it takes up a reader's panic; else it does nothing. -/
import Derived.Test.YtejnfbfikadpdaaGreatDoorSq
import Derived.Test.YtejnfbfikadpdaaGreatDoorHandTk
import Derived.TacticsInMore
import Derived.RegionIn
import Derived.RecoverIn
import Derived.RangeFuncLeaves
namespace Go.Proofs.YtejnfbfikadpdaaGreatDoor.P
open Go.RowKit Go.Shelf Go.Proofs.YtejnfbfikadpdaaGreatDoorW.PrintWords Go.Proofs.YtejnfbfikadpdaaGreatDoorW.PrintLast Go.Proofs.YtejnfbfikadpdaaGreatDoorW.PrintMore
set_option linter.unusedVariables false
set_option linter.unusedSimpArgs false
attribute [local go_sem] Oper.semAt_some
abbrev zTag : Array Value := #[.string ⟨#[]⟩, .slice none 0 0, .string ⟨#[]⟩, .string ⟨#[]⟩, .slice none 0 0, .slice none 0 0, .slice none 0 0, .string ⟨#[]⟩]
def rc2_T : Bool × List (List Nat × List Nat) := (true, [([], []), ([], []), ([1], [1]), ([0, 0], [0]), ([2, 3, 0, 1, 2, 3], [2])])
def rc2_B : List Nat := [0, 0, 2, 1, 15]
theorem rc2_tab : rtab .any (opsOf Tryz.f44 2) = rc2_T := by kernel_rfl
theorem rc2_bits : waitsOk rc2_T.2 rc2_B = true := by kernel_rfl
structure Caught (W W' : World) (bt be : Nat) (p : Value) : Prop where
  t : W'.heap[bt]? = some (.cells zTag 29 (0, 0))
  e : W'.heap[be]? = some (.cells #[.iface 93 p] 33 (0, 0))
  size : W.heap.size ≤ W'.heap.size
  keep : ∀ k, k < W.heap.size → k ≠ bt → k ≠ be → W'.heap[k]? = W.heap[k]?
  bel : ∀ b0 : Nat, b0 ≤ bt → b0 ≤ be → b0 ≤ W.heap.size → Below b0 W W'
theorem cells8q {w : World} {g : Nat} {t : TypeId} {x0 x1 x2 x3 x4 x5 x6 x7 : Value} (h : w.heap[g]? = some (.cells #[x0, x1, x2, x3, x4, x5, x6, x7] t (0, 0))) : (w.cell? ⟨g, 0, none⟩ = some x0 ∧ w.cell? ⟨g, 1, none⟩ = some x1 ∧ w.cell? ⟨g, 2, none⟩ = some x2 ∧ w.cell? ⟨g, 3, none⟩ = some x3 ∧ w.cell? ⟨g, 4, none⟩ = some x4 ∧ w.cell? ⟨g, 5, none⟩ = some x5 ∧ w.cell? ⟨g, 6, none⟩ = some x6 ∧ w.cell? ⟨g, 7, none⟩ = some x7) ∧ (w.frozen? ⟨g, 0, none⟩ = false ∧ w.frozen? ⟨g, 1, none⟩ = false ∧ w.frozen? ⟨g, 2, none⟩ = false ∧ w.frozen? ⟨g, 3, none⟩ = false ∧ w.frozen? ⟨g, 4, none⟩ = false ∧ w.frozen? ⟨g, 5, none⟩ = false ∧ w.frozen? ⟨g, 6, none⟩ = false ∧ w.frozen? ⟨g, 7, none⟩ = false) :=
  ⟨(C8_ h), blk_frozen h 0, blk_frozen h 1, blk_frozen h 2, blk_frozen h 3, blk_frozen h 4, blk_frozen h 5, blk_frozen h 6, blk_frozen h 7⟩
theorem cell8k {k g : Nat} (h : g ≠ k) {W : World} {j : Nat} {u0 u1 u2 u3 u4 u5 u6 u7 : Value} : ((((((((W.setCell ⟨g, 0, none⟩ u0).setCell ⟨g, 1, none⟩ u1).setCell ⟨g, 2, none⟩ u2).setCell ⟨g, 3, none⟩ u3).setCell ⟨g, 4, none⟩ u4).setCell ⟨g, 5, none⟩ u5).setCell ⟨g, 6, none⟩ u6).setCell ⟨g, 7, none⟩ u7).cell? ⟨k, j, none⟩ = W.cell? ⟨k, j, none⟩ := by
  have := keep8 (k := k) (g := g) (fun e => h e.symm) W u0 u1 u2 u3 u4 u5 u6 u7
  unfold World.cell?
  rw [this]
theorem assert_wrong (v : Value) (w : World) : (Instr.typeAssert (.iface 77 v) 20 77 true).run Tryz.prog w = .ok (.tuple #[v, .bool true]) w := by kernel_rfl
theorem assert_none (w : World) : (Instr.typeAssert .nilIface 20 77 true).run Tryz.prog w = .ok (.tuple #[.agg #[.nilIface], .bool false]) w := by kernel_rfl
set_option maxRecDepth 100000 in
set_option maxHeartbeats 4000000 in
theorem catch_bad {n : Nat} {W : World} {bt be : Nat} (p : Value) (hne : bt ≠ be) {v : Value} (ht : W.heap[bt]? = some (.cells zTag 29 (0, 0))) (he : W.heap[be]? = some (.cells #[v] 33 (0, 0))) :
    CallsDIn Fence.wide n Tryz.prog 44 #[.pointer (some ⟨bt, 0, none⟩), .pointer (some ⟨be, 0, none⟩)] (.panicking [{ v := .iface 77 (.agg #[.iface 93 p]), recovered := false }]) W fun e u' W' =>
      e = .returned (.tuple #[]) ∧ u' = .panicking [{ v := .iface 77 (.agg #[.iface 93 p]), recovered := true }] ∧ Caught W W' bt be p := by
  refine callsDIn_of_wpSIn Tryz.func44 rfl trivial fun c₀ cs hu => ?_
  have lt := blk_lt ht
  have le := blk_lt he
  have nb := new_blk W (.cells #[.nilIface] 77)
  have nc : (W.alloc (.cells #[.nilIface] 77)).cell? ⟨W.heap.size, 0, none⟩ = some .nilIface := (blk_cell nb 0).trans rfl
  have nf := blk_frozen nb 0
  have N1 := Lib.hid (new_blk W (.cells #[.iface 93 p] 77))
  have B1 := Lib.hid (below_alloc (Below.refl W.heap.size W) (.cells #[.iface 93 p] 77))
  have HT := Lib.hid (blk_on ht B1.out)
  have HE := Lib.hid (blk_on he B1.out)
  have LT := Lib.hid lt
  have LE := Lib.hid le
  obtain ⟨⟨p0, p1, p2, p3, p4, p5, p6, p7⟩, f0, f1, f2, f3, f4, f5, f6, f7⟩ := cells8q HT.out
  have pe : (W.alloc (.cells #[.iface 93 p] 77)).cell? ⟨be, 0, none⟩ = some v := (blk_cell HE.out 0).trans rfl
  have fe := blk_frozen HE.out 0
  have n1 : ¬ (bt = be) := hne
  have n2 : ¬ (be = bt) := fun e => hne e.symm
  have n3 : ¬ (W.heap.size = bt) := by omega
  have n4 : ¬ (W.heap.size = be) := by omega
  have n5 : ¬ (bt = W.heap.size) := by omega
  have n6 : ¬ (be = W.heap.size) := by omega
  clear lt le ht he
  apply wpSIn_seq
  apply wpSIn_region
  simp [wpOpsSIn, go_sem, recoverD, hu, Tryz.ntmps44, Exit.thenS, nc, nf, assert_wrong]
  refine wpSIn_of_wpIn rfl (wpIn_wide.2 ?_)
  simp only [Array.replicate_succ, Array.replicate_zero, List.push_toArray, List.append_toArray, List.nil_append, List.cons_append, List.setIfInBounds_toArray, List.set_cons_zero, List.set_cons_succ]
  go_wp2
  refine start_ (n := 5) (S := fun w' => w'.cell? ⟨W.heap.size, 0, none⟩ = some (.iface 93 p)) (ds := [4]) #[false, false, false, false, false] (by kernel_rfl) rfl rfl (show World.cell? _ ⟨W.heap.size, 0, none⟩ = some _ from (blk_cell N1.out 0).trans rfl) (fun hHeld => ?_); refine with_tabW rc2_tab rc2_bits (fun HT_ HW_ => ?_)
  refine pu_ (i := 0) (N := some 10) HT_ (bl_ 5 1) ?_
  refine pu_ (i := 1) (N := some 11) HT_ (bl_ 5 3) ?_
  refine tk_ (i := 2) (N := some 12) HT_ HW_ (bl_ 5 7) hHeld ?_ (hy := by rintro w' s0; go_simp; with_reducible rfl)
  have HT2 := Lib.hid (show (W.alloc (.cells #[.iface 93 p] 77)).drew.heap[bt]? = _ from HT.out)
  have HE2 := Lib.hid (show (W.alloc (.cells #[.iface 93 p] 77)).drew.heap[be]? = _ from HE.out)
  have B2 := Lib.hid (below_drew B1.out)
  have N2 := Lib.hid (show (W.alloc (.cells #[.iface 93 p] 77)).drew.heap[W.heap.size]? = _ from N1.out)
  clear p0 p1 p2 p3 p4 p5 p6 p7 f0 f1 f2 f3 f4 f5 f6 f7 pe fe hHeld nb nc nf HT HE B1 N1
  generalize (W.alloc (.cells #[.iface 93 p] 77)).drew = W2 at *
  obtain ⟨⟨p0, p1, p2, p3, p4, p5, p6, p7⟩, f0, f1, f2, f3, f4, f5, f6, f7⟩ := cells8q HT2.out
  have pe : W2.cell? ⟨be, 0, none⟩ = some v := (blk_cell HE2.out 0).trans rfl
  have fe := blk_frozen HE2.out 0
  refine on_ (i := 3) (N := none) HT_ (bl_ 5 15) rfl rfl (fun K hK => ?_)
  refine skip_ (w1 := ?_) (by rfl) rfl ?_ ?_
  rotate_left
  · go_simp
    rfl
  refine hK.out _ _ (show World.cell? _ ⟨W.heap.size, 0, none⟩ = some _ by rw [cell8k n5]; exact (blk_cell N2.out 0).trans rfl) (fun hHeld => ?_)
  clear hK K
  have T3 := Lib.hid (put8 HT2.out (.string ⟨#[]⟩) (.slice none 0 0) (.string ⟨#[]⟩) (.string ⟨#[]⟩) (.slice none 0 0) (.slice none 0 0) (.slice none 0 0) (.string ⟨#[]⟩))
  have K3 := Lib.hid (fun (k : Nat) (h : k ≠ bt) => keep8 h W2 (.string ⟨#[]⟩) (.slice none 0 0) (.string ⟨#[]⟩) (.string ⟨#[]⟩) (.slice none 0 0) (.slice none 0 0) (.slice none 0 0) (.string ⟨#[]⟩))
  have L3 := Lib.hid (fun (b0 : Nat) (h : b0 ≤ bt) (h2 : b0 ≤ W.heap.size) => below8 (below_lower B2.out h2) h (.string ⟨#[]⟩) (.slice none 0 0) (.string ⟨#[]⟩) (.string ⟨#[]⟩) (.slice none 0 0) (.slice none 0 0) (.slice none 0 0) (.string ⟨#[]⟩))
  have Z3 := Lib.hid (show ((((((((W2.setCell ⟨bt, 0, none⟩ (.string ⟨#[]⟩)).setCell ⟨bt, 1, none⟩ (.slice none 0 0)).setCell ⟨bt, 2, none⟩ (.string ⟨#[]⟩)).setCell ⟨bt, 3, none⟩ (.string ⟨#[]⟩)).setCell ⟨bt, 4, none⟩ (.slice none 0 0)).setCell ⟨bt, 5, none⟩ (.slice none 0 0)).setCell ⟨bt, 6, none⟩ (.slice none 0 0)).setCell ⟨bt, 7, none⟩ (.string ⟨#[]⟩)).heap.size = W2.heap.size by simp [World.setCell])
  clear p0 p1 p2 p3 p4 p5 p6 p7 f0 f1 f2 f3 f4 f5 f6 f7 pe fe hHeld
  generalize ((((((((W2.setCell ⟨bt, 0, none⟩ (.string ⟨#[]⟩)).setCell ⟨bt, 1, none⟩ (.slice none 0 0)).setCell ⟨bt, 2, none⟩ (.string ⟨#[]⟩)).setCell ⟨bt, 3, none⟩ (.string ⟨#[]⟩)).setCell ⟨bt, 4, none⟩ (.slice none 0 0)).setCell ⟨bt, 5, none⟩ (.slice none 0 0)).setCell ⟨bt, 6, none⟩ (.slice none 0 0)).setCell ⟨bt, 7, none⟩ (.string ⟨#[]⟩)) = W3 at *
  have E3 := Lib.hid ((K3.out be n2).trans HE2.out)
  have pe : W3.cell? ⟨be, 0, none⟩ = some v := (blk_cell E3.out 0).trans rfl
  have fe := blk_frozen E3.out 0
  refine last_ (i := 4) (N := none) #[true, true, true, true, true] rfl rfl (one_of HT_.out (by kernel_rfl)) (by decide) (fun K hK => ?_)
  refine skip_ (w1 := ?_) (by rfl) rfl ?_ ?_
  rotate_left
  · go_simp
    rfl
  refine hK.out _ _ ?_
  clear hK K
  refine done_ (done_of HT_.out (by kernel_rfl)) ?_
  have hfin : Caught W (W3.setCell ⟨be, 0, none⟩ (.iface 93 p)) bt be p := by
    refine ⟨blk_far (p := ⟨be, 0, none⟩) T3.out hne _, blk_put E3.out 0 _ rfl, ?_, fun k hk h1 h2 => ?_, fun b0 h1 h2 h3 => (L3.out b0 h1 h3).setCell (p := ⟨be, 0, none⟩) h2 _⟩
    · have h1 := B2.out.size
      have h2 := Z3.out
      have h3 : (W3.setCell ⟨be, 0, none⟩ (.iface 93 p)).heap.size = W3.heap.size := by simp [World.setCell]
      omega
    · rw [Below.heap_setCell W3 ⟨be, 0, none⟩ _ k h2, K3.out k h1, B2.out.block k hk]
  exact ⟨rfl, _, rfl, _, results_none rfl _ _ _, rfl, rfl, hfin⟩
set_option maxRecDepth 100000 in
set_option maxHeartbeats 4000000 in
theorem catch_none {n : Nat} {W : World} {bt be : Nat} : CallsDIn Fence.wide n Tryz.prog 44 #[.pointer (some ⟨bt, 0, none⟩), .pointer (some ⟨be, 0, none⟩)] .returning W fun e u' W' => e = .returned (.tuple #[]) ∧ u' = .returning ∧ Below W.heap.size W W' := by
  refine callsDIn_of_wpSIn Tryz.func44 rfl trivial fun c₀ cs hu => ?_
  have nb := new_blk W (.cells #[.nilIface] 77)
  have nc : (W.alloc (.cells #[.nilIface] 77)).cell? ⟨W.heap.size, 0, none⟩ = some .nilIface := (blk_cell nb 0).trans rfl
  have nf := blk_frozen nb 0
  apply wpSIn_seq
  apply wpSIn_region
  simp [wpOpsSIn, go_sem, recoverD, hu, Tryz.ntmps44, Exit.thenS, nc, nf, assert_none]
  refine wpSIn_of_wpIn rfl (wpIn_wide.2 ?_)
  simp only [Array.replicate_succ, Array.replicate_zero, List.push_toArray, List.append_toArray, List.nil_append, List.cons_append, List.setIfInBounds_toArray, List.set_cons_zero, List.set_cons_succ]
  go_wp2
  have hc : ({ c₀ with mode := .returning } : Frame) = c₀ := by cases c₀; simp_all
  exact ⟨rfl, .returning, by rw [hc], _, results_none rfl _ _ _, rfl, rfl, below_alloc (Below.refl _ _) _⟩
end Go.Proofs.YtejnfbfikadpdaaGreatDoor.P
