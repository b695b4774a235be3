/- Contracts proved by hand: strings.Index at "-", the iterator of split.Each, split.Split. Condition: texts are shorter than 2^43 bytes. -/
import Derived.Test.YtljadeeoaoiilaaGreatDoorProg
import Derived.Test.YtljadeeoaoiilaaGreatDoorWMore
import Derived.Test.YtljadeeoaoiilaaGreatDoorPlain
import Derived.Lib.Bytealg
import Derived.Lib.Hide
import Derived.RangeFuncWrites
import Derived.WalkLawsBesides
import Derived.WalkMore
import Derived.RangeFuncNested
import Derived.RangeFuncBound
import Derived.RangeFuncCalls
import Derived.RangeFuncLeaves
import Derived.RangeFuncBox
import Derived.Shelf.Abstract
import Derived.Shelf.RegionOpen
import Derived.WalkKit
import Derived.OwnWalkIn
import Derived.TacticsInMore
import Derived.LoopNIn
import Derived.LoopIn
import Derived.Maps.AppendAt
namespace Go.Proofs.YtljadeeoaoiilaaGreatDoor.P
open Go.RowKit Go.Shelf Go.Proofs.YtljadeeoaoiilaaGreatDoorW.PrintWords
attribute [local go_sem] Oper.semAt_some
theorem ret_int {k : IntKind} {a b : Int} (h : a = b) : Ending.returned (.int k a) = .returned (.int k b) := by rw [h]
theorem wpIn_scope_straight {F : Fence} {n : Nat} {P : Program} {Q : Exit → Act → World → Prop} {a : Act} {w : World} {c : Code} (h : c.wpIn F n P (Exit.noGoto Q) a w) : (Code.scope c).wpIn F n P Q a w := by
  intro b k cs hro hb hr
  have h0 : (lone (b.atR a (.code (.scope c) :: k)) cs w).fenced P F := fenced_calm hb hr rfl
  have s0 : step P (lone (b.atR a (.code (.scope c) :: k)) cs w) = .next (lone (b.atR a (.code c :: .inScope c :: k)) cs w) := step_lone_go (by simp [stepG, stepG.exec, Frame.atR])
  have s1 : ∀ (a : Act) (w : World), step P (lone (b.atR a (.inScope c :: k)) cs w) = .next (lone (b.atR a k) cs w) := fun a w => step_lone_go (by simp [stepG, stepG.exec, Frame.atR])
  obtain ⟨e, a₁, w₁, hq, harr⟩ := h b (.inScope c :: k) cs hro hb hr
  cases e with
  | normal => exact ⟨.normal, a₁, w₁, hq, .head h0 s0 (StepsIn.trans harr (.one (fenced_calm hb hr rfl) (s1 _ _)))⟩
  | exit id =>
    have hx : exitTo id (.inScope c :: k) = exitTo id k := by simp [exitTo]
    exact ⟨.exit id, a₁, w₁, hq, fun k' hk => .head h0 s0 (harr.1 k' (by rw [hx]; exact hk)), fun hr' hk => let ⟨k₁, h1, h2⟩ := harr.2 hr' (by rw [hx]; exact hk); ⟨k₁, h1, .head h0 s0 h2⟩⟩
  | goto l => exact hq.elim
  | ret => exact ⟨_, a₁, w₁, hq, .of_steps (.one h0 s0) harr⟩
  | panic ch => exact ⟨_, a₁, w₁, hq, .of_steps (.one h0 s0) harr⟩
  | outgrown => exact ⟨_, a₁, w₁, hq, .of_steps (.one h0 s0) harr⟩
set_option maxRecDepth 100000 in
set_option maxHeartbeats 1000000 in
theorem indexByte_any (s : ByteArray) (c : Int) (w : World) : Calls Tryz.prog 110 #[.string s, .int .u8 c] w fun e w' => e = .returned (.int .i64 (Lib.indexByte s.data.toList c.toNat.toUInt8)) ∧ w = w' := by
  go_enter Tryz.func110, Tryz.ntmps110
  go_wp2
  rw [run_callFunc_extern Tryz.func116 (by kernel_rfl) (by kernel_rfl) (by kernel_rfl) (e := Extern.BytealgIndexByte.indexByte) (by kernel_rfl), Lib.run_indexByteString]
  simp only [Result.andThen]
  rw [Oper.upon_value]
  go_wp2
  go_ret
  exact ⟨rfl, rfl⟩
theorem idx_is (s : ByteArray) (h : ([45] == s.toList) = true) : Lib.indexByte s.data.toList 45 = 0 := by
  rw [← ByteArray.toList_eq, ← beq_iff_eq.1 h]; rfl
set_option maxHeartbeats 2000000 in
theorem sindex_dash (s : ByteArray) (w : World) : Calls Tryz.prog 107 #[.string s, .string ⟨#[45]⟩] w fun e w' => e = .returned (.int .i64 (Lib.indexByte s.data.toList 45)) ∧ w = w' := by
  go_enter Tryz.func107, Tryz.ntmps107
  go_wp2_with (go_at_call 110; refine (indexByte_any _ _ _).mono ?_; rintro e w' ⟨rfl, rfl⟩)
  · have hh : ([45] == s.toList) = true := by assumption
    have hi := Lib.hid (idx_is s hh)
    go_ret
    exact ⟨ret_int hi.out.symm, rfl⟩
  · go_ret
    exact ⟨rfl, rfl⟩
set_option maxHeartbeats 1000000 in
theorem index_dash (s : ByteArray) (w : World) : Calls Tryz.prog 100 #[.string s, .string ⟨#[45]⟩] w fun e w' => e = .returned (.int .i64 (Lib.indexByte s.data.toList 45)) ∧ w = w' := by
  go_enter Tryz.func100, Tryz.ntmps100
  go_wp2_with (go_at_call 107; refine (sindex_dash _ _).mono ?_; rintro e w' ⟨rfl, rfl⟩)
  go_ret
  exact ⟨rfl, rfl⟩
theorem each_in (F : Fence) (n : Nat) (h5 : F.fn 81) (hro : F.round = none) (s : ByteArray) (w : World) :
    CallsIn F n Tryz.prog 81 #[.string s] w fun e w' => e = .returned (.func (.func 99) #[] #[.pointer (some ⟨w.heap.size, 0, none⟩)]) ∧ w' = w.alloc (.cells #[.string s] 9) := by
  refine callsIn_of_wp Tryz.func81 rfl h5 ?_ hro
  simp only [Tryz.ntmps81, List.size_toArray, List.length_cons, List.length_nil, Nat.reduceAdd, Nat.reduceSub, Array.replicate_succ, Array.replicate_zero, List.push_toArray, List.append_toArray, List.nil_append, List.cons_append]
  gi_wp2
  go_ret
  exact ⟨rfl, rfl⟩
def KeepsCell (B : Nat) (A C : World) : Prop := ∀ v, A.cell? ⟨B, 0, none⟩ = some v → C.cell? ⟨B, 0, none⟩ = some v
theorem KeepsCell.refl (B : Nat) (A : World) : KeepsCell B A A := fun _ h => h
theorem KeepsCell.trans {B : Nat} {A C D : World} (h : KeepsCell B A C) (k : KeepsCell B C D) : KeepsCell B A D := fun v hv => k v (h v hv)
theorem keepsCell_b {B : Nat} {w : World} (W : World) (l : Nat) (o o' : Obj) (_ : w.heap.size ≤ l) (h : W.heap[l]? = some o) (hc : o.isCells = false) (_ : o.isWalk = false) : KeepsCell B W (W.putObj l o') := by
  intro v hv
  have hne : B ≠ l := by
    rintro rfl
    unfold World.cell? at hv
    rw [h] at hv
    cases o <;> simp [Obj.isCells] at hc hv
  unfold World.cell? at hv ⊢
  rw [World.putObj_heap_other hne]
  exact hv
abbrev encP (x : Nat × ByteArray) : Array Value := #[.int .i64 (x.1 : Int), .string x.2]
def eachB (s : ByteArray) : List (Nat × ByteArray) := (Iso.each (Iso.bl s)).map fun p => (p.1, Iso.mk p.2)
def eachFrom (s : ByteArray) (a : Nat) : List (Nat × ByteArray) := (Iso.eachGo a [] ((Iso.bl s).drop a)).map fun p => (p.1, Iso.mk p.2)
theorem sub_to_end (s : ByteArray) (a : Nat) : (s.extract a s.size).data.toList = (Iso.bl s).drop a := by
  have := Iso.bl_extract s a s.size
  unfold Iso.bl at this
  rw [this, List.take_of_length_le (by rw [List.length_drop]; have := Iso.bl_len s; unfold Iso.bl at this; omega)]; rfl
theorem eachFrom_last (s : ByteArray) (a : Nat) (h : Lib.indexByte (s.extract a s.size).data.toList 45 = -1) : eachFrom s a = [(a, s.extract a s.size)] := by
  unfold eachFrom
  rw [sub_to_end] at h
  rw [Iso.eachGo_none _ _ _ h]
  simp only [List.map_cons, List.map_nil, List.nil_append]
  rw [← sub_to_end]
  rfl
theorem eachFrom_next (s : ByteArray) (a m : Nat) (h : Lib.indexByte (s.extract a s.size).data.toList 45 = m) : a + m < s.size ∧ eachFrom s a = (a, s.extract a (a + m)) :: eachFrom s (a + m + 1) := by
  unfold eachFrom
  rw [sub_to_end] at h
  obtain ⟨h1, h2⟩ := Iso.eachGo_some _ a [] m h
  rw [List.length_drop, Iso.bl_len] at h1
  refine ⟨by omega, ?_⟩
  rw [h2]
  simp only [List.map_cons, List.nil_append, List.length_nil, Nat.add_zero, List.drop_drop]
  have e : Iso.mk (List.take m (List.drop a (Iso.bl s))) = s.extract a (a + m) := by
    apply Iso.bl_inj
    rw [Iso.bl_mk, Iso.bl_extract]
    congr 1; omega
  rw [e]
  congr 3
theorem index_cases (l : List UInt8) : Lib.indexByte l 45 = -1 ∨ ∃ m : Nat, Lib.indexByte l 45 = m := by
  have := Lib.indexByte_ge l 45
  by_cases h : Lib.indexByte l 45 = -1
  · exact .inl h
  · exact .inr ⟨(Lib.indexByte l 45).toNat, by omega⟩
set_option maxRecDepth 100000 in
set_option maxHeartbeats 2000000 in
theorem each1_in (n : Nat) (hn : 1 ≤ n) (l B : Nat) (s : ByteArray) (hs : s.size ≤ 140737488355328) (J Jx : List (Nat × ByteArray) → World → Prop)
    (hY : ∀ pre x W, J pre W → pre ++ [x] <+: eachB s → YieldAt Fence.wide (n - 1) Tryz.prog l (encP x) W fun e W' =>
      (e = .returned (.bool true) ∧ J (pre ++ [x]) W' ∧ KeepsCell B W W') ∨ (e = .returned (.bool false) ∧ Jx (pre ++ [x]) W'))
    (W : World) (hB : W.cell? ⟨B, 0, none⟩ = some (.string s)) (h0 : J [] W) :
    CallsIn Fence.wide n Tryz.prog 99 #[.func (.yield l) #[] #[], .pointer (some ⟨B, 0, none⟩)] W fun e W' => (∃ v, e = .returned v) ∧
      ((∃ ys, ys = eachB s ∧ J ys W') ∨ (∃ pre, pre <+: eachB s ∧ Jx pre W')) := by
  refine callsIn_of_wp Tryz.func99 rfl trivial ?_ rfl
  simp only [Tryz.ntmps99, List.size_toArray, List.length_cons, List.length_nil, Nat.reduceAdd, Nat.reduceSub, Array.replicate_succ, Array.replicate_zero, List.push_toArray, List.append_toArray, List.nil_append, List.cons_append]
  gi_wp2
  refine wpIn_scope_straight ?_
  gi_wp2
  refine wpIn_label ?_
  gi_wp2
  gi_loopw [3, 4] (fun i m wr => ∃ (a : Nat) (pre : List (Nat × ByteArray)), a ≤ s.size ∧ i = .int .i64 a ∧ Hid (eachB s = pre ++ eachFrom s a) ∧ J pre wr ∧ wr.cell? ⟨B, 0, none⟩ = some (.string s)) (fun i _ _ => s.size - (intOf i).toNat)
  case atStart => exact ⟨0, [], by omega, rfl, rfl, h0, hB⟩
  case round =>
    obtain ⟨a, pre, ha, rfl, hx, hJs, hc⟩ := hrel
    rcases index_cases (s.extract a s.size).data.toList with hi | ⟨m, hi⟩
    · have C : ∀ W, Calls Tryz.prog 100 #[.string (s.extract a s.size), .string ⟨#[45]⟩] W fun e w' => e = .returned (.int .i64 (-1)) ∧ W = w' := fun W => by have := index_dash (s.extract a s.size) W; rwa [hi] at this
      have hl := eachFrom_last s a hi
      have HX : Hid (eachB s = pre ++ [(a, s.extract a s.size)]) := by have := hx.out; rwa [hl] at this
      have hlen : pre ++ [(a, s.extract a s.size)] <+: eachB s := by rw [HX.out]; exact List.prefix_refl _
      obtain ⟨fn, tmps, assign, body, hy, hR⟩ := hY pre (a, s.extract a s.size) wr hJs hlen
      dsimp only [encP] at hy
      clear hi hl hx hlen
      gi_wp2_with (refine ⟨trivial, ?_⟩; gi_at_call 100; refine (callsIn_wide.2 (C _)).mono ?_; rintro e w' ⟨rfl, rfl⟩)
      refine hR.mono ?_
      rintro e W3 (⟨rfl, hJ3, hk3⟩ | ⟨rfl, hJx3⟩)
      · gi_wp2
        rw [Exit.noGoto_normal]
        go_end0
        exact ⟨⟨_, rfl⟩, .inl ⟨_, HX.out.symm, hJ3⟩⟩
      · gi_wp2
        rw [Exit.noGoto_normal]
        go_end0
        exact ⟨⟨_, rfl⟩, .inr ⟨_, ⟨[], by rw [List.append_nil]; exact HX.out.symm⟩, hJx3⟩⟩
    · obtain ⟨hm, hl⟩ := eachFrom_next s a m hi
      have C : ∀ W, Calls Tryz.prog 100 #[.string (s.extract a s.size), .string ⟨#[45]⟩] W fun e w' => e = .returned (.int .i64 (m : Int)) ∧ W = w' := fun W => by have := index_dash (s.extract a s.size) W; rwa [hi] at this
      have HX : Hid (eachB s = pre ++ (a, s.extract a (a + m)) :: eachFrom s (a + m + 1)) := by have := hx.out; rwa [hl] at this
      have hlen : pre ++ [(a, s.extract a (a + m))] <+: eachB s := ⟨eachFrom s (a + m + 1), by rw [HX.out]; simp⟩
      obtain ⟨fn, tmps, assign, body, hy, hR⟩ := hY pre (a, s.extract a (a + m)) wr hJs hlen
      dsimp only [encP] at hy
      clear hi hl hx hlen
      have hsl : ∀ W, (Instr.slice 9 (.string s) (some (.int .i64 (a : Int))) (some (.int .i64 ((a : Int) + (m : Int)))) none).run Tryz.prog W = .ok (.string (s.extract a (a + m))) W := fun W => by
        have := run_slice_string (P := Tryz.prog) (w := W) 9 s .i64 .i64 (a : Int) ((a : Int) + (m : Int)) Tryz.underlying9 (by omega) (by omega) (by omega)
        rwa [show ((a : Int) + (m : Int)).toNat = a + m from by omega, Int.toNat_natCast] at this
      gi_wp2_with (refine ⟨trivial, ?_⟩; gi_at_call 100; refine (callsIn_wide.2 (C _)).mono ?_; rintro e w' ⟨rfl, rfl⟩)
      clear hsl
      refine hR.mono ?_
      rintro e W3 (⟨rfl, hJ3, hk3⟩ | ⟨rfl, hJx3⟩)
      · have hc3 := hk3 _ hc
        gi_wp2
        go_roundw
        case rel => exact ⟨a + m + 1, pre ++ [(a, s.extract a (a + m))], by omega, by go_num, (by show eachB s = _; rw [HX.out]; simp), hJ3, hc3⟩
        case measure => simp [intOf]; omega
      · gi_wp2
        rw [Exit.noGoto_ret]
        refine bodyPost_ret (results_none rfl _ _ _) rfl ?_
        exact ⟨⟨_, rfl⟩, .inr ⟨pre ++ [(a, s.extract a (a + m))], ⟨eachFrom s (a + m + 1), by rw [HX.out]; simp⟩, hJx3⟩⟩
abbrev Pc (s : ByteArray) := {x : Nat × ByteArray // x ∈ eachB s}
theorem each_stops (n : Nat) (hn : 1 ≤ n) (B : Nat) (s : ByteArray) (hs : s.size ≤ 140737488355328) (w : World) (hB : B < w.heap.size) (hc : w.cell? ⟨B, 0, none⟩ = some (.string s)) :
    SeqStopsK Fence.wide n Tryz.prog 99 #[.pointer (some ⟨B, 0, none⟩)] (fun x : Pc s => encP x.1) (KeepsCell B) (fun ys => ys.map (·.1) = eachB s) (fun pre => pre.map (·.1) <+: eachB s) (eachB s).length w := fun l J Jx W hW _ _ hY h0 => by
  refine (each1_in n hn l B s hs (fun pre W => ∃ p : List (Pc s), p.map (·.1) = pre ∧ J p W) (fun pre W => ∃ p : List (Pc s), p.map (·.1) = pre ∧ Jx p W) ?_ W ((hW.cell (p := ⟨B, 0, none⟩) hB).trans hc) ⟨[], rfl, h0⟩).mono ?_
  · rintro pre x W ⟨p, rfl, hj⟩ hp
    have hx : x ∈ eachB s := hp.subset (by simp)
    have hl : p.length < (eachB s).length := by
      have := hp.length_le
      simp only [List.length_append, List.length_map, List.length_cons, List.length_nil] at this
      omega
    obtain ⟨fn, tmps, assign, body, hy, hR⟩ := hY p ⟨x, hx⟩ W hj hl
    refine ⟨fn, tmps, assign, body, hy, hR.mono ?_⟩
    rintro e W' (⟨he, hj', hk⟩ | ⟨he, hj'⟩)
    · exact .inl ⟨he, ⟨p ++ [⟨x, hx⟩], by simp, hj'⟩, hk⟩
    · exact .inr ⟨he, p ++ [⟨x, hx⟩], by simp, hj'⟩
  · rintro e W' ⟨he, ⟨ys, rfl, p, hp, hj⟩ | ⟨pre, hpre, p, rfl, hj⟩⟩
    · exact ⟨he, .inl ⟨p, hp, hj⟩⟩
    · exact ⟨he, .inr ⟨p, hpre, hj⟩⟩
theorem boxed_appended {W w1 : World} {n₀ b0 B : Nat} {t e : TypeId} {size : Nat} {v v' : Value} {k m : Nat} {xs ys : List Value} {tmp : Obj}
    (hv : Boxed W B t v) (hBb : B < b0) (hrow : W.ownsRow b0 e size v k xs) (hb0 : b0 ≤ W.heap.size) (hB : n₀ ≤ B)
    (hown' : w1.ownsRow b0 e size v' m ys) (hgrow : (W.alloc tmp).grownBy w1 v.ownBlock) :
    Boxed w1 B t v ∧ Boxed (w1.setCell ⟨B, 0, none⟩ v') B t v' ∧ (w1.setCell ⟨B, 0, none⟩ v').ownsRow b0 e size v' m ys ∧ KeepsOthers W (w1.setCell ⟨B, 0, none⟩ v') ∧ Below n₀ W (w1.setCell ⟨B, 0, none⟩ v') ∧
      ∀ B1, B1 < b0 → B1 ≠ B → (w1.setCell ⟨B, 0, none⟩ v').heap[B1]? = W.heap[B1]? := by
  have hne : ∀ j, j < b0 → some j ≠ v.ownBlock := fun j hj e => by have := own_base hrow j e.symm; omega
  have hne' : ∀ j, j < b0 → some j ≠ v'.ownBlock := fun j hj e => by have := own_base hown' j e.symm; omega
  have hv1 : Boxed w1 B t v := (hv.alloc tmp).kept hgrow (hne B hBb)
  refine ⟨hv1, hv1.set v', hown'.kept (grownBy_setCell' w1 B v') (.inr (hne' B hBb).symm), ?_, ?_, ?_⟩
  · refine ((KeepsOthers.alloc W tmp).trans (KeepsOthers.of_grownBy hgrow fun j o ej hj => ?_)).trans (KeepsOthers.setCell _ _ _)
    rcases (hrow.alloc tmp).2 with ⟨rfl, _⟩ | ⟨g, cap, cur, rfl, _, hgb, _⟩
    · simp [Value.ownBlock] at ej
    · obtain rfl : g = j := by simpa [Value.ownBlock] using ej
      rw [hgb] at hj; cases hj; rfl
  · refine (((Below.refl n₀ W).alloc (by omega) tmp).grown hgrow (by simp; omega) fun j ej => ?_).setCell (p := ⟨B, 0, none⟩) hB v'
    have := own_base hrow j ej; omega
  · intro B1 h1 h2
    rw [Below.heap_setCell w1 ⟨B, 0, none⟩ v' B1 h2, hgrow.block B1 (by rw [World.size_alloc]; omega) (hne B1 h1), Below.heap_alloc W tmp B1 (by omega)]
theorem hinfo9 : (Tryz.prog.info? 9).map (fun i => (i.zero, i.size, i.bytes)) = some (some (.string ⟨#[]⟩), 1, 16) := by kernel_rfl
def split_Split.f (a0 : ByteArray) : Option (List ByteArray) := if a0.size < 8796093022207 then some ((eachB a0).map (·.2)) else none
set_option maxRecDepth 100000 in
set_option maxHeartbeats 4000000 in
theorem split_Split.calls (a0 : ByteArray) (r : List ByteArray) (w : World) (h : split_Split.f a0 = some r) :
    Calls Tryz.prog 44 #[.string a0] w fun e w' => ∃ v0_ : Value, e = .returned (v0_) ∧ Kd.R Kd.string 9 w' w.heap.size (fun _ => True) v0_ r ∧ Below w.heap.size w w' := by
  unfold split_Split.f at h
  have hs : a0.size < 8796093022207 := by
    by_cases c : a0.size < 8796093022207
    · exact c
    · rw [if_neg c] at h; cases h
  rw [if_pos hs] at h
  obtain rfl := Option.some.inj h
  clear h
  have hlen : (eachB a0).length ≤ 8796093022207 := by
    unfold eachB
    rw [List.length_map]
    have := Iso.eachGo_length (Iso.bl a0) 0 []
    rw [Iso.bl_len] at this
    unfold Iso.each; omega
  refine (callsIn_wide (n := 3)).1 ?_
  obtain ⟨i0, hi, hz0, hz1, hz2⟩ := info_parts hinfo9
  refine callsIn_of_wp_marks Tryz.func44 rfl trivial ?_ rfl
  simp only [Tryz.ntmps44, List.size_toArray, List.length_cons, List.length_nil, Nat.reduceAdd, Nat.reduceSub, Array.replicate_succ, Array.replicate_zero, List.push_toArray, List.append_toArray, List.nil_append, List.cons_append]
  gi_wp2_with (refine ⟨trivial, ?_⟩; gi_at_call 81; refine (each_in Fence.wide (3 - 1) trivial rfl _ _).mono ?_; rintro e w' ⟨rfl, rfl⟩)
  have bO := Boxed.new w 22 (.slice none 0 0)
  have bN := Boxed.new (w.alloc (.cells #[.slice none 0 0] 22)) 9 (.string a0)
  rw [World.size_alloc] at bN
  have hB0 : Below w.heap.size w ((w.alloc (.cells #[.slice none 0 0] 22)).alloc (.cells #[.string a0] 9)) := ((Below.refl _ w).alloc (Nat.le_refl _) _).alloc (by simp) _
  refine wpIn_rangeFunc_ownG (F := Fence.wide) rfl (by decide) (gf := 99) (lb := #[.pointer (some ⟨w.heap.size + 1, 0, none⟩)]) rfl trivial (enters_of Tryz.func99 (by kernel_rfl) rfl)
    (each_stops (3 - 1) (by decide) (w.heap.size + 1) a0 (by omega) _ (by simp) bN.cell) KeepsCell.trans keepsCell_b (Below.refl _ _) (fun _ => rfl)
    (fun (pre : List (Pc a0)) W => (∃ v, Boxed W w.heap.size 22 v ∧ W.ownsRow (w.heap.size + 2) 9 1 v pre.length (pre.map (fun x => Value.string x.1.2)) ∧ True) ∧ Below w.heap.size w W ∧ Boxed W (w.heap.size + 1) 9 (.string a0))
    (fun _ _ _ => False)
    (OwnFrom.and (Own.from (holdsRow_own (w.heap.size + 2) w.heap.size 22 9 1 (fun (pre : List (Pc a0)) => pre.length) (fun pre => pre.map (fun x => Value.string x.1.2)) (fun pre v => True)) _) (OwnFrom.and (ownFrom_below (Nat.le_refl _) (by simp; omega)) (Own.from (boxed_own _ _ _) _)))
    (fun _ _ _ _ _ hs _ _ => hs)
    ⟨⟨_, bO.alloc _, World.ownsRow_nil _ _ _ _, trivial⟩, hB0, bN⟩
    (fun (x : Pc a0) => { tmps := #[.string a0, undef, .slice none 0 0, .pointer (some ⟨w.heap.size, 0, none⟩), undef, .string x.1.2, .string a0, .func (.func 99) #[] #[.pointer (some ⟨w.heap.size + 1, 0, none⟩)], .int .i64 (x.1.1 : Int), .string x.1.2, undef, undef, undef, undef, undef], defers := [] }) ?assign ?body ?done ?stop
  case assign =>
    intro l x W K hK
    gi_wp2
    exact hK
  case body =>
    rintro l pre x W ⟨⟨v, hv, hrow, _⟩, hB2, hN⟩ hlt
    have hc := hv.cell
    have hsz := hN.lt
    gi_wp2_with (gi_at_builtin; refine wpListIn_append_own _ rfl _ _ 22 rfl (w.heap.size + 2) 9 i0 (.string ⟨#[]⟩) 1 16 Tryz.underlying22 hi hz0 hz1 hz2 rfl (by decide) _ _ _ rfl (hrow.alloc _) ⟨W.heap.size, 0, none⟩ 1 1 [.string x.1.2] rfl rfl (cell_one_new _ _ _) (by simp [Value.oneCell']) (by unfold maxLen; omega) (by omega) (by simp; omega) ?_; intro v' w1 hown' hgrow _; obtain ⟨g', cap', rfl⟩ := ownsRow_succ hown'; obtain ⟨hv1, hv2, hr2, hk2, hb2, hk1⟩ := boxed_appended (n₀ := w.heap.size) hv (by omega) hrow (by omega) (Nat.le_refl _) hown' hgrow; have hc1 := hv1.cell; have hf1 := hv1.frozen)
    have hkc : KeepsCell (w.heap.size + 1) W _ := fun v0 h0 => by
      have := hk1 (w.heap.size + 1) (by omega) (by omega)
      unfold World.cell? at h0 ⊢
      rw [this]; exact h0
    exact ⟨hk2.from _, hkc, ⟨_, hv2, by simpa using hr2, trivial⟩, hB2.trans hb2, (hk1 (w.heap.size + 1) (by omega) (by omega)).trans hN⟩
  case done =>
    rintro D ys W hD hys ⟨⟨v, hv, hrow, _⟩, hB, _⟩ hK
    have HY := Lib.hid hys
    clear hys
    have hc := hv.cell
    gi_wp2
    refine ⟨by simp, .inl ⟨_, _, rfl, run_takeDeferred hK, ?_⟩⟩
    refine ⟨_, results_tmp rfl _ _ _, v, rfl, ?_, hB.trans (belowK_b (w := w) (Nat.le_refl _) W D _ _ (by simp at hD; omega) hK rfl rfl)⟩
    have ho := ownsRow_putObj hrow (.deferred none) hK rfl
    refine Kd.R_of_own (enc := Value.string) ?_ (fun _ _ => trivial)
    rw [List.length_map, ← HY.out, List.length_map, List.map_map]
    have e : encs Value.string (ys.map ((·.2) ∘ (·.1))) = ys.map (fun x => Value.string x.1.2) := by unfold encs; rw [List.map_map]; rfl
    rw [e]
    exact own_weaken ho (by omega)
  case stop =>
    rintro D c pre W _ _ h _
    exact h.elim
end Go.Proofs.YtljadeeoaoiilaaGreatDoor.P
