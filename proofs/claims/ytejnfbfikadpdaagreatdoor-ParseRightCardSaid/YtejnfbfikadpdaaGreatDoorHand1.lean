/- Contracts proved by hand: strings.Index at "-", the iterator of split.Each, split.Split. Condition: texts are shorter than 2^43 bytes. -/
import Derived.Lib.Bytealg
import Derived.Laws.Strings
import Derived.Test.YtejnfbfikadpdaaGreatDoorWWords
import Derived.Test.YtejnfbfikadpdaaGreatDoorWLast
import Derived.Test.YtejnfbfikadpdaaGreatDoorWApart
import Derived.Test.YtejnfbfikadpdaaGreatDoorWN
import Derived.Test.YtejnfbfikadpdaaGreatDoorProg
import Derived.Lib.Hide
import Derived.RangeFuncWrites
import Derived.WalkLawsBesides
import Derived.WalkMore
import Derived.RangeFuncNested
import Derived.RangeFuncBound
import Derived.RangeFuncCalls
import Derived.RangeFuncLeaves
import Derived.RangeFuncBox
import Derived.Shelf.Abstract
import Derived.Shelf.RegionOpen
import Derived.WalkKit
import Derived.OwnWalkIn
import Derived.TacticsInMore
import Derived.LoopNIn
import Derived.LoopIn
import Derived.Maps.AppendAt
namespace Go.Proofs.YtejnfbfikadpdaaGreatDoor.Iso
abbrev Str := List UInt8
def bl (s : ByteArray) : Str := s.data.toList
def mk (l : Str) : ByteArray := ⟨l.toArray⟩
theorem bl_mk (l : Str) : bl (mk l) = l := id rfl
theorem mk_bl (s : ByteArray) : mk (bl s) = s := by cases s; rfl
theorem bl_len (s : ByteArray) : (bl s).length = s.size := id rfl
theorem mk_size (l : Str) : (mk l).size = l.length := id rfl
theorem bl_inj {a b : ByteArray} (h : bl a = bl b) : a = b := by rw [← mk_bl a, h, mk_bl]
theorem mk_inj {a b : Str} (h : mk a = mk b) : a = b := by rw [← bl_mk a, h, bl_mk]
theorem bl_toList (s : ByteArray) : s.toList = bl s := Go.ByteArray.toList_eq s
theorem bl_extract (s : ByteArray) (a b : Nat) : bl (s.extract a b) = ((bl s).drop a).take (b - a) := by
  unfold bl
  rw [ByteArray.data_extract, Array.toList_extract, List.extract_eq_take_drop]
def isUp (c : UInt8) : Bool := 65 ≤ c.toNat && c.toNat ≤ 90
def isLow (c : UInt8) : Bool := 97 ≤ c.toNat && c.toNat ≤ 122
def isAl (c : UInt8) : Bool := isUp c || isLow c
def isDg (c : UInt8) : Bool := 48 ≤ c.toNat && c.toNat ≤ 57
def lowC (c : UInt8) : UInt8 := if isUp c then c + 32 else c
def upC (c : UInt8) : UInt8 := if isLow c then c - 32 else c
def low (s : Str) : Str := s.map lowC
def up (s : Str) : Str := s.map upC
def title : Str → Str
  | [] => []
  | c :: t => upC c :: low t
def isAlnum (c : UInt8) : Bool := isAl c || isDg c
def cls (s : Str) : Nat := if s = [] then 0 else if s.all isAlnum then (if s.all isAl then 1 else if s.all isDg then 2 else 3) else 0
theorem byte_all (p : UInt8 → Bool) (h : ∀ n, n < 256 → p (UInt8.ofNat n) = true) (c : UInt8) : p c = true := by
  have := h c.toNat c.toNat_lt
  rwa [UInt8.ofNat_toNat] at this
theorem low_low (s : Str) : low (low s) = low s := by
  unfold low
  rw [List.map_map]
  refine List.map_congr_left fun c _ => ?_
  exact of_decide_eq_true (byte_all (fun c => decide (lowC (lowC c) = lowC c)) (by decide +kernel) c)
end Go.Proofs.YtejnfbfikadpdaaGreatDoor.Iso
namespace Go.Proofs.YtejnfbfikadpdaaGreatDoor.Iso
def eachGo (a : Nat) (acc : Str) : Str → List (Nat × Str)
  | [] => [(a, acc)]
  | c :: t => if c = 45 then (a, acc) :: eachGo (a + acc.length + 1) [] t else eachGo a (acc ++ [c]) t
def each (s : Str) : List (Nat × Str) := eachGo 0 [] s
theorem eachGo_none : ∀ (l : Str) (a : Nat) (acc : Str), Go.Lib.indexByte l 45 = -1 → eachGo a acc l = [(a, acc ++ l)]
  | [], a, acc, _ => by simp [eachGo]
  | c :: t, a, acc, h => by
    unfold Go.Lib.indexByte at h
    by_cases hc : (c == (45 : UInt8)) = true
    · rw [if_pos hc] at h; cases h
    · rw [if_neg hc] at h
      have ht : Go.Lib.indexByte t 45 = -1 := by
        by_cases h2 : (Go.Lib.indexByte t 45 == -1) = true
        · exact beq_iff_eq.1 h2
        · rw [if_neg h2] at h; have := Go.Lib.indexByte_ge t 45; omega
      have hc' : ¬ c = 45 := fun e => hc (beq_iff_eq.2 e)
      rw [eachGo, if_neg hc', eachGo_none t a (acc ++ [c]) ht]
      simp
theorem eachGo_some : ∀ (l : Str) (a : Nat) (acc : Str) (n : Nat), Go.Lib.indexByte l 45 = n → n < l.length ∧ eachGo a acc l = (a, acc ++ l.take n) :: eachGo (a + acc.length + n + 1) [] (l.drop (n + 1))
  | [], a, acc, n, h => by simp [Go.Lib.indexByte] at h
  | c :: t, a, acc, n, h => by
    unfold Go.Lib.indexByte at h
    by_cases hc : (c == (45 : UInt8)) = true
    · rw [if_pos hc] at h
      obtain rfl : n = 0 := by omega
      refine ⟨by simp, ?_⟩
      rw [eachGo, if_pos (beq_iff_eq.1 hc)]
      simp
    · rw [if_neg hc] at h
      have hc' : ¬ c = 45 := fun e => hc (beq_iff_eq.2 e)
      by_cases h2 : (Go.Lib.indexByte t 45 == -1) = true
      · rw [if_pos h2] at h; omega
      · rw [if_neg h2] at h
        obtain ⟨m, hm⟩ : ∃ m : Nat, Go.Lib.indexByte t 45 = m := ⟨(Go.Lib.indexByte t 45).toNat, by
          have := Go.Lib.indexByte_ge t 45
          have h3 : ¬ Go.Lib.indexByte t 45 = -1 := fun e => h2 (beq_iff_eq.2 e)
          omega⟩
        obtain ⟨g1, g2⟩ := eachGo_some t a (acc ++ [c]) m hm
        obtain rfl : n = m + 1 := by omega
        refine ⟨by simpa using g1, ?_⟩
        rw [eachGo, if_neg hc', g2]
        simp only [List.append_assoc, List.cons_append, List.nil_append, List.take_succ_cons, List.drop_succ_cons, List.length_append, List.length_cons, List.length_nil]
        congr 2; omega
theorem eachGo_length : ∀ (l : Str) (a : Nat) (acc : Str), (eachGo a acc l).length ≤ l.length + 1
  | [], _, _ => by simp [eachGo]
  | c :: t, a, acc => by
    unfold eachGo
    split
    · have := eachGo_length t (a + acc.length + 1) []; simp only [List.length_cons]; omega
    · have := eachGo_length t a (acc ++ [c]); simp only [List.length_cons]; omega
def split (s : Str) : List Str := (each s).map (·.2)
end Go.Proofs.YtejnfbfikadpdaaGreatDoor.Iso
namespace Go.Proofs.YtejnfbfikadpdaaGreatDoorW.PrintMore
open Go.RowKit Go.Proofs.YtejnfbfikadpdaaGreatDoorW.PrintWords
namespace Kd
open Go.Proofs.YtejnfbfikadpdaaGreatDoorW.PrintWords.Kd
end Kd
namespace Kd
open Go.Proofs.YtejnfbfikadpdaaGreatDoorW.PrintWords.Kd
end Kd
theorem max2_int (k k' : IntKind) (x y : Int) : Builtin.max2 (.int k x) (.int k' y) = pure (.int k (if x < y then y else x)) := by simp only [Builtin.max2, gt_iff_lt]
theorem min2_int (k k' : IntKind) (x y : Int) : Builtin.min2 (.int k x) (.int k' y) = pure (.int k (if y < x then y else x)) := by simp only [Builtin.min2]
theorem max_two (ats : Array TypeId) (ty : TypeId) (a b : Value) : Builtin.max_ ats ty #[a, b] = (Builtin.max2 a b >>= fun s => pure s) := by simp only [Builtin.max_, List.foldlM_cons, List.foldlM_nil]
theorem min_two (ats : Array TypeId) (ty : TypeId) (a b : Value) : Builtin.min_ ats ty #[a, b] = (Builtin.min2 a b >>= fun s => pure s) := by simp only [Builtin.min_, List.foldlM_cons, List.foldlM_nil]
theorem max_three (ats : Array TypeId) (ty : TypeId) (a b c : Value) : Builtin.max_ ats ty #[a, b, c] = (Builtin.max2 a b >>= fun s => Builtin.max2 s c >>= fun s => pure s) := by simp only [Builtin.max_, List.foldlM_cons, List.foldlM_nil]
theorem min_three (ats : Array TypeId) (ty : TypeId) (a b c : Value) : Builtin.min_ ats ty #[a, b, c] = (Builtin.min2 a b >>= fun s => Builtin.min2 s c >>= fun s => pure s) := by simp only [Builtin.min_, List.foldlM_cons, List.foldlM_nil]
theorem max_four (ats : Array TypeId) (ty : TypeId) (a b c d : Value) : Builtin.max_ ats ty #[a, b, c, d] = (Builtin.max2 a b >>= fun s => Builtin.max2 s c >>= fun s => Builtin.max2 s d >>= fun s => pure s) := by simp only [Builtin.max_, List.foldlM_cons, List.foldlM_nil]
theorem min_four (ats : Array TypeId) (ty : TypeId) (a b c d : Value) : Builtin.min_ ats ty #[a, b, c, d] = (Builtin.min2 a b >>= fun s => Builtin.min2 s c >>= fun s => Builtin.min2 s d >>= fun s => pure s) := by simp only [Builtin.min_, List.foldlM_cons, List.foldlM_nil]
end Go.Proofs.YtejnfbfikadpdaaGreatDoorW.PrintMore
namespace Go.Proofs.YtejnfbfikadpdaaGreatDoorW.PrintWords
open Go.RowKit
section
variable {P : Program} {ops : Array Oper} {rest : List Oper} {o : Oper} {a : Act} {Q : Exit → Act → World → Prop} {W : World}
theorem gate_callee {f : FuncId} {ars : Array Operand} {ts : Array TypeId} (_ho : o.op = .call { callee := .value (.func f), args := ars, argTypes := ts }) (h : wpList P ops Q (o :: rest) a W) : wpList P ops Q (o :: rest) a W := h
theorem gate_builtin {b : Builtin} {xs : Array Operand} {ts : Array TypeId} (_ho : o.op = .call { callee := .builtin b, args := xs, argTypes := ts }) (h : wpList P ops Q (o :: rest) a W) : wpList P ops Q (o :: rest) a W := h
end
def mn (a b : Int) : Int := if b < a then b else a
theorem drewN_self (w : World) (n : Nat) : w.drewN n = w.drewN n := rfl
namespace Kd
end Kd
end Go.Proofs.YtejnfbfikadpdaaGreatDoorW.PrintWords
namespace Go.Proofs.YtejnfbfikadpdaaGreatDoorW.PrintWords
open Go.RowKit
namespace Kd
def V {α : Type} (d : Kd α) (_e : Nat) (W : World) (_base : Nat) (ok : Nat → Prop) (v : Value) (xs : List α) : Prop := ∃ A c, v = .slice A xs.length c ∧ xs.length ≤ c ∧ F d W ok A xs.length xs
section
variable {α β : Type} {d : Kd α} {e base base' n m c g N' lo hi : Nat} {ok ok' S : Nat → Prop} {w W w1 : World} {A : Option Addr} {ad : Addr} {u v v1 : Value} {xs : List α}
theorem V_nil (d : Kd α) (e : Nat) (W : World) (base : Nat) (ok : Nat → Prop) : V d e W base ok (.slice none 0 0) [] := ⟨none, 0, rfl, Nat.le_refl _, F_nil d W ok⟩
end
end Kd
end Go.Proofs.YtejnfbfikadpdaaGreatDoorW.PrintWords
namespace Go.Proofs.YtejnfbfikadpdaaGreatDoor.P
open Go.RowKit Go.Shelf Go.Proofs.YtejnfbfikadpdaaGreatDoorW.PrintWords
attribute [local go_sem] Oper.semAt_some
theorem ret_int {k : IntKind} {a b : Int} (h : a = b) : Ending.returned (.int k a) = .returned (.int k b) := by rw [h]
theorem wpIn_scope_straight {F : Fence} {n : Nat} {P : Program} {Q : Exit → Act → World → Prop} {a : Act} {w : World} {c : Code} (h : c.wpIn F n P (Exit.noGoto Q) a w) : (Code.scope c).wpIn F n P Q a w := by
  intro b k cs hro hb hr
  have h0 : (lone (b.atR a (.code (.scope c) :: k)) cs w).fenced P F := fenced_calm hb hr rfl
  have s0 : step P (lone (b.atR a (.code (.scope c) :: k)) cs w) = .next (lone (b.atR a (.code c :: .inScope c :: k)) cs w) := step_lone_go (by simp [stepG, stepG.exec, Frame.atR])
  have s1 : ∀ (a : Act) (w : World), step P (lone (b.atR a (.inScope c :: k)) cs w) = .next (lone (b.atR a k) cs w) := fun a w => step_lone_go (by simp [stepG, stepG.exec, Frame.atR])
  obtain ⟨e, a₁, w₁, hq, harr⟩ := h b (.inScope c :: k) cs hro hb hr
  cases e with
  | normal => exact ⟨.normal, a₁, w₁, hq, .head h0 s0 (StepsIn.trans harr (.one (fenced_calm hb hr rfl) (s1 _ _)))⟩
  | exit id =>
    have hx : exitTo id (.inScope c :: k) = exitTo id k := by simp [exitTo]
    exact ⟨.exit id, a₁, w₁, hq, fun k' hk => .head h0 s0 (harr.1 k' (by rw [hx]; exact hk)), fun hr' hk => let ⟨k₁, h1, h2⟩ := harr.2 hr' (by rw [hx]; exact hk); ⟨k₁, h1, .head h0 s0 h2⟩⟩
  | goto l => exact hq.elim
  | ret => exact ⟨_, a₁, w₁, hq, .of_steps (.one h0 s0) harr⟩
  | panic ch => exact ⟨_, a₁, w₁, hq, .of_steps (.one h0 s0) harr⟩
  | outgrown => exact ⟨_, a₁, w₁, hq, .of_steps (.one h0 s0) harr⟩
set_option maxRecDepth 100000 in
set_option maxHeartbeats 1000000 in
theorem indexByte_any (s : ByteArray) (c : Int) (w : World) : Calls Tryz.prog 146 #[.string s, .int .u8 c] w fun e w' => e = .returned (.int .i64 (Lib.indexByte s.data.toList c.toNat.toUInt8)) ∧ w = w' := by
  go_enter Tryz.func146, Tryz.ntmps146
  go_wp2
  rw [run_callFunc_extern Tryz.func161 (by kernel_rfl) (by kernel_rfl) (by kernel_rfl) (e := Extern.BytealgIndexByte.indexByte) (by kernel_rfl), Lib.run_indexByteString]
  simp only [Result.andThen]
  rw [Oper.upon_value]
  go_wp2
  go_ret
  exact ⟨rfl, rfl⟩
theorem idx_is (s : ByteArray) (h : ([45] == s.toList) = true) : Lib.indexByte s.data.toList 45 = 0 := by
  rw [← ByteArray.toList_eq, ← beq_iff_eq.1 h]; rfl
set_option maxHeartbeats 2000000 in
theorem sindex_dash (s : ByteArray) (w : World) : Calls Tryz.prog 113 #[.string s, .string ⟨#[45]⟩] w fun e w' => e = .returned (.int .i64 (Lib.indexByte s.data.toList 45)) ∧ w = w' := by
  go_enter Tryz.func113, Tryz.ntmps113
  go_wp2_with (go_at_call 146; refine (indexByte_any _ _ _).mono ?_; rintro e w' ⟨rfl, rfl⟩)
  · have hh : ([45] == s.toList) = true := by assumption
    have hi := Lib.hid (idx_is s hh)
    go_ret
    exact ⟨ret_int hi.out.symm, rfl⟩
  · go_ret
    exact ⟨rfl, rfl⟩
set_option maxHeartbeats 1000000 in
theorem index_dash (s : ByteArray) (w : World) : Calls Tryz.prog 75 #[.string s, .string ⟨#[45]⟩] w fun e w' => e = .returned (.int .i64 (Lib.indexByte s.data.toList 45)) ∧ w = w' := by
  go_enter Tryz.func75, Tryz.ntmps75
  go_wp2_with (go_at_call 113; refine (sindex_dash _ _).mono ?_; rintro e w' ⟨rfl, rfl⟩)
  go_ret
  exact ⟨rfl, rfl⟩
theorem each_in (F : Fence) (n : Nat) (h5 : F.fn 43) (hro : F.round = none) (s : ByteArray) (w : World) :
    CallsIn F n Tryz.prog 43 #[.string s] w fun e w' => e = .returned (.func (.func 74) #[] #[.pointer (some ⟨w.heap.size, 0, none⟩)]) ∧ w' = w.alloc (.cells #[.string s] 9) := by
  refine callsIn_of_wp Tryz.func43 rfl h5 ?_ hro
  simp only [Tryz.ntmps43, List.size_toArray, List.length_cons, List.length_nil, Nat.reduceAdd, Nat.reduceSub, Array.replicate_succ, Array.replicate_zero, List.push_toArray, List.append_toArray, List.nil_append, List.cons_append]
  gi_wp2
  go_ret
  exact ⟨rfl, rfl⟩
def KeepsCell (B : Nat) (A C : World) : Prop := ∀ v, A.cell? ⟨B, 0, none⟩ = some v → C.cell? ⟨B, 0, none⟩ = some v
theorem KeepsCell.refl (B : Nat) (A : World) : KeepsCell B A A := fun _ h => h
theorem KeepsCell.trans {B : Nat} {A C D : World} (h : KeepsCell B A C) (k : KeepsCell B C D) : KeepsCell B A D := fun v hv => k v (h v hv)
theorem keepsCell_b {B : Nat} {w : World} (W : World) (l : Nat) (o o' : Obj) (_ : w.heap.size ≤ l) (h : W.heap[l]? = some o) (hc : o.isCells = false) (_ : o.isWalk = false) : KeepsCell B W (W.putObj l o') := by
  intro v hv
  have hne : B ≠ l := by
    rintro rfl
    unfold World.cell? at hv
    rw [h] at hv
    cases o <;> simp [Obj.isCells] at hc hv
  unfold World.cell? at hv ⊢
  rw [World.putObj_heap_other hne]
  exact hv
abbrev encP (x : Nat × ByteArray) : Array Value := #[.int .i64 (x.1 : Int), .string x.2]
def eachB (s : ByteArray) : List (Nat × ByteArray) := (Iso.each (Iso.bl s)).map fun p => (p.1, Iso.mk p.2)
def eachFrom (s : ByteArray) (a : Nat) : List (Nat × ByteArray) := (Iso.eachGo a [] ((Iso.bl s).drop a)).map fun p => (p.1, Iso.mk p.2)
theorem sub_to_end (s : ByteArray) (a : Nat) : (s.extract a s.size).data.toList = (Iso.bl s).drop a := by
  have := Iso.bl_extract s a s.size
  unfold Iso.bl at this
  rw [this, List.take_of_length_le (by rw [List.length_drop]; have := Iso.bl_len s; unfold Iso.bl at this; omega)]; rfl
theorem eachFrom_last (s : ByteArray) (a : Nat) (h : Lib.indexByte (s.extract a s.size).data.toList 45 = -1) : eachFrom s a = [(a, s.extract a s.size)] := by
  unfold eachFrom
  rw [sub_to_end] at h
  rw [Iso.eachGo_none _ _ _ h]
  simp only [List.map_cons, List.map_nil, List.nil_append]
  rw [← sub_to_end]
  rfl
theorem eachFrom_next (s : ByteArray) (a m : Nat) (h : Lib.indexByte (s.extract a s.size).data.toList 45 = m) : a + m < s.size ∧ eachFrom s a = (a, s.extract a (a + m)) :: eachFrom s (a + m + 1) := by
  unfold eachFrom
  rw [sub_to_end] at h
  obtain ⟨h1, h2⟩ := Iso.eachGo_some _ a [] m h
  rw [List.length_drop, Iso.bl_len] at h1
  refine ⟨by omega, ?_⟩
  rw [h2]
  simp only [List.map_cons, List.nil_append, List.length_nil, Nat.add_zero, List.drop_drop]
  have e : Iso.mk (List.take m (List.drop a (Iso.bl s))) = s.extract a (a + m) := by
    apply Iso.bl_inj
    rw [Iso.bl_mk, Iso.bl_extract]
    congr 1; omega
  rw [e]
  congr 3
theorem index_cases (l : List UInt8) : Lib.indexByte l 45 = -1 ∨ ∃ m : Nat, Lib.indexByte l 45 = m := by
  have := Lib.indexByte_ge l 45
  by_cases h : Lib.indexByte l 45 = -1
  · exact .inl h
  · exact .inr ⟨(Lib.indexByte l 45).toNat, by omega⟩
set_option maxRecDepth 100000 in
set_option maxHeartbeats 2000000 in
theorem each1_in (n : Nat) (hn : 1 ≤ n) (l B : Nat) (s : ByteArray) (hs : s.size ≤ 140737488355328) (J Jx : List (Nat × ByteArray) → World → Prop)
    (hY : ∀ pre x W, J pre W → pre ++ [x] <+: eachB s → YieldAt Fence.wide (n - 1) Tryz.prog l (encP x) W fun e W' =>
      (e = .returned (.bool true) ∧ J (pre ++ [x]) W' ∧ KeepsCell B W W') ∨ (e = .returned (.bool false) ∧ Jx (pre ++ [x]) W'))
    (W : World) (hB : W.cell? ⟨B, 0, none⟩ = some (.string s)) (h0 : J [] W) :
    CallsIn Fence.wide n Tryz.prog 74 #[.func (.yield l) #[] #[], .pointer (some ⟨B, 0, none⟩)] W fun e W' => (∃ v, e = .returned v) ∧
      ((∃ ys, ys = eachB s ∧ J ys W') ∨ (∃ pre, pre <+: eachB s ∧ Jx pre W')) := by
  refine callsIn_of_wp Tryz.func74 rfl trivial ?_ rfl
  simp only [Tryz.ntmps74, List.size_toArray, List.length_cons, List.length_nil, Nat.reduceAdd, Nat.reduceSub, Array.replicate_succ, Array.replicate_zero, List.push_toArray, List.append_toArray, List.nil_append, List.cons_append]
  gi_wp2
  refine wpIn_scope_straight ?_
  gi_wp2
  refine wpIn_label ?_
  gi_wp2
  gi_loopw [3, 4] (fun i m wr => ∃ (a : Nat) (pre : List (Nat × ByteArray)), a ≤ s.size ∧ i = .int .i64 a ∧ Hid (eachB s = pre ++ eachFrom s a) ∧ J pre wr ∧ wr.cell? ⟨B, 0, none⟩ = some (.string s)) (fun i _ _ => s.size - (intOf i).toNat)
  case atStart => exact ⟨0, [], by omega, rfl, rfl, h0, hB⟩
  case round =>
    obtain ⟨a, pre, ha, rfl, hx, hJs, hc⟩ := hrel
    rcases index_cases (s.extract a s.size).data.toList with hi | ⟨m, hi⟩
    · have C : ∀ W, Calls Tryz.prog 75 #[.string (s.extract a s.size), .string ⟨#[45]⟩] W fun e w' => e = .returned (.int .i64 (-1)) ∧ W = w' := fun W => by have := index_dash (s.extract a s.size) W; rwa [hi] at this
      have hl := eachFrom_last s a hi
      have HX : Hid (eachB s = pre ++ [(a, s.extract a s.size)]) := by have := hx.out; rwa [hl] at this
      have hlen : pre ++ [(a, s.extract a s.size)] <+: eachB s := by rw [HX.out]; exact List.prefix_refl _
      obtain ⟨fn, tmps, assign, body, hy, hR⟩ := hY pre (a, s.extract a s.size) wr hJs hlen
      dsimp only [encP] at hy
      clear hi hl hx hlen
      gi_wp2_with (refine ⟨trivial, ?_⟩; gi_at_call 75; refine (callsIn_wide.2 (C _)).mono ?_; rintro e w' ⟨rfl, rfl⟩)
      refine hR.mono ?_
      rintro e W3 (⟨rfl, hJ3, hk3⟩ | ⟨rfl, hJx3⟩)
      · gi_wp2
        rw [Exit.noGoto_normal]
        go_end0
        exact ⟨⟨_, rfl⟩, .inl ⟨_, HX.out.symm, hJ3⟩⟩
      · gi_wp2
        rw [Exit.noGoto_normal]
        go_end0
        exact ⟨⟨_, rfl⟩, .inr ⟨_, ⟨[], by rw [List.append_nil]; exact HX.out.symm⟩, hJx3⟩⟩
    · obtain ⟨hm, hl⟩ := eachFrom_next s a m hi
      have C : ∀ W, Calls Tryz.prog 75 #[.string (s.extract a s.size), .string ⟨#[45]⟩] W fun e w' => e = .returned (.int .i64 (m : Int)) ∧ W = w' := fun W => by have := index_dash (s.extract a s.size) W; rwa [hi] at this
      have HX : Hid (eachB s = pre ++ (a, s.extract a (a + m)) :: eachFrom s (a + m + 1)) := by have := hx.out; rwa [hl] at this
      have hlen : pre ++ [(a, s.extract a (a + m))] <+: eachB s := ⟨eachFrom s (a + m + 1), by rw [HX.out]; simp⟩
      obtain ⟨fn, tmps, assign, body, hy, hR⟩ := hY pre (a, s.extract a (a + m)) wr hJs hlen
      dsimp only [encP] at hy
      clear hi hl hx hlen
      have hsl : ∀ W, (Instr.slice 9 (.string s) (some (.int .i64 (a : Int))) (some (.int .i64 ((a : Int) + (m : Int)))) none).run Tryz.prog W = .ok (.string (s.extract a (a + m))) W := fun W => by
        have := run_slice_string (P := Tryz.prog) (w := W) 9 s .i64 .i64 (a : Int) ((a : Int) + (m : Int)) Tryz.underlying9 (by omega) (by omega) (by omega)
        rwa [show ((a : Int) + (m : Int)).toNat = a + m from by omega, Int.toNat_natCast] at this
      gi_wp2_with (refine ⟨trivial, ?_⟩; gi_at_call 75; refine (callsIn_wide.2 (C _)).mono ?_; rintro e w' ⟨rfl, rfl⟩)
      clear hsl
      refine hR.mono ?_
      rintro e W3 (⟨rfl, hJ3, hk3⟩ | ⟨rfl, hJx3⟩)
      · have hc3 := hk3 _ hc
        gi_wp2
        go_roundw
        case rel => exact ⟨a + m + 1, pre ++ [(a, s.extract a (a + m))], by omega, by go_num, (by show eachB s = _; rw [HX.out]; simp), hJ3, hc3⟩
        case measure => simp [intOf]; omega
      · gi_wp2
        rw [Exit.noGoto_ret]
        refine bodyPost_ret (results_none rfl _ _ _) rfl ?_
        exact ⟨⟨_, rfl⟩, .inr ⟨pre ++ [(a, s.extract a (a + m))], ⟨eachFrom s (a + m + 1), by rw [HX.out]; simp⟩, hJx3⟩⟩
abbrev Pc (s : ByteArray) := {x : Nat × ByteArray // x ∈ eachB s}
theorem each_stops (n : Nat) (hn : 1 ≤ n) (B : Nat) (s : ByteArray) (hs : s.size ≤ 140737488355328) (w : World) (hB : B < w.heap.size) (hc : w.cell? ⟨B, 0, none⟩ = some (.string s)) :
    SeqStopsK Fence.wide n Tryz.prog 74 #[.pointer (some ⟨B, 0, none⟩)] (fun x : Pc s => encP x.1) (KeepsCell B) (fun ys => ys.map (·.1) = eachB s) (fun pre => pre.map (·.1) <+: eachB s) (eachB s).length w := fun l J Jx W hW _ _ hY h0 => by
  refine (each1_in n hn l B s hs (fun pre W => ∃ p : List (Pc s), p.map (·.1) = pre ∧ J p W) (fun pre W => ∃ p : List (Pc s), p.map (·.1) = pre ∧ Jx p W) ?_ W ((hW.cell (p := ⟨B, 0, none⟩) hB).trans hc) ⟨[], rfl, h0⟩).mono ?_
  · rintro pre x W ⟨p, rfl, hj⟩ hp
    have hx : x ∈ eachB s := hp.subset (by simp)
    have hl : p.length < (eachB s).length := by
      have := hp.length_le
      simp only [List.length_append, List.length_map, List.length_cons, List.length_nil] at this
      omega
    obtain ⟨fn, tmps, assign, body, hy, hR⟩ := hY p ⟨x, hx⟩ W hj hl
    refine ⟨fn, tmps, assign, body, hy, hR.mono ?_⟩
    rintro e W' (⟨he, hj', hk⟩ | ⟨he, hj'⟩)
    · exact .inl ⟨he, ⟨p ++ [⟨x, hx⟩], by simp, hj'⟩, hk⟩
    · exact .inr ⟨he, p ++ [⟨x, hx⟩], by simp, hj'⟩
  · rintro e W' ⟨he, ⟨ys, rfl, p, hp, hj⟩ | ⟨pre, hpre, p, rfl, hj⟩⟩
    · exact ⟨he, .inl ⟨p, hp, hj⟩⟩
    · exact ⟨he, .inr ⟨p, hpre, hj⟩⟩
theorem boxed_appended {W w1 : World} {n₀ b0 B : Nat} {t e : TypeId} {size : Nat} {v v' : Value} {k m : Nat} {xs ys : List Value} {tmp : Obj}
    (hv : Boxed W B t v) (hBb : B < b0) (hrow : W.ownsRow b0 e size v k xs) (hb0 : b0 ≤ W.heap.size) (hB : n₀ ≤ B)
    (hown' : w1.ownsRow b0 e size v' m ys) (hgrow : (W.alloc tmp).grownBy w1 v.ownBlock) :
    Boxed w1 B t v ∧ Boxed (w1.setCell ⟨B, 0, none⟩ v') B t v' ∧ (w1.setCell ⟨B, 0, none⟩ v').ownsRow b0 e size v' m ys ∧ KeepsOthers W (w1.setCell ⟨B, 0, none⟩ v') ∧ Below n₀ W (w1.setCell ⟨B, 0, none⟩ v') ∧
      ∀ B1, B1 < b0 → B1 ≠ B → (w1.setCell ⟨B, 0, none⟩ v').heap[B1]? = W.heap[B1]? := by
  have hne : ∀ j, j < b0 → some j ≠ v.ownBlock := fun j hj e => by have := own_base hrow j e.symm; omega
  have hne' : ∀ j, j < b0 → some j ≠ v'.ownBlock := fun j hj e => by have := own_base hown' j e.symm; omega
  have hv1 : Boxed w1 B t v := (hv.alloc tmp).kept hgrow (hne B hBb)
  refine ⟨hv1, hv1.set v', hown'.kept (grownBy_setCell' w1 B v') (.inr (hne' B hBb).symm), ?_, ?_, ?_⟩
  · refine ((KeepsOthers.alloc W tmp).trans (KeepsOthers.of_grownBy hgrow fun j o ej hj => ?_)).trans (KeepsOthers.setCell _ _ _)
    rcases (hrow.alloc tmp).2 with ⟨rfl, _⟩ | ⟨g, cap, cur, rfl, _, hgb, _⟩
    · simp [Value.ownBlock] at ej
    · obtain rfl : g = j := by simpa [Value.ownBlock] using ej
      rw [hgb] at hj; cases hj; rfl
  · refine (((Below.refl n₀ W).alloc (by omega) tmp).grown hgrow (by simp; omega) fun j ej => ?_).setCell (p := ⟨B, 0, none⟩) hB v'
    have := own_base hrow j ej; omega
  · intro B1 h1 h2
    rw [Below.heap_setCell w1 ⟨B, 0, none⟩ v' B1 h2, hgrow.block B1 (by rw [World.size_alloc]; omega) (hne B1 h1), Below.heap_alloc W tmp B1 (by omega)]
theorem hinfo9 : (Tryz.prog.info? 9).map (fun i => (i.zero, i.size, i.bytes)) = some (some (.string ⟨#[]⟩), 1, 16) := by kernel_rfl
def split_Split.f (a0 : ByteArray) : Option (List ByteArray) := if a0.size < 8796093022207 then some ((eachB a0).map (·.2)) else none
set_option maxRecDepth 100000 in
set_option maxHeartbeats 4000000 in
theorem split_Split.calls (a0 : ByteArray) (r : List ByteArray) (w : World) (h : split_Split.f a0 = some r) :
    Calls Tryz.prog 100 #[.string a0] w fun e w' => ∃ v0_ : Value, e = .returned (v0_) ∧ Kd.R Kd.string 9 w' w.heap.size (fun _ => True) v0_ r ∧ Below w.heap.size w w' := by
  unfold split_Split.f at h
  have hs : a0.size < 8796093022207 := by
    by_cases c : a0.size < 8796093022207
    · exact c
    · rw [if_neg c] at h; cases h
  rw [if_pos hs] at h
  obtain rfl := Option.some.inj h
  clear h
  have hlen : (eachB a0).length ≤ 8796093022207 := by
    unfold eachB
    rw [List.length_map]
    have := Iso.eachGo_length (Iso.bl a0) 0 []
    rw [Iso.bl_len] at this
    unfold Iso.each; omega
  refine (callsIn_wide (n := 3)).1 ?_
  obtain ⟨i0, hi, hz0, hz1, hz2⟩ := info_parts hinfo9
  refine callsIn_of_wp_marks Tryz.func100 rfl trivial ?_ rfl
  simp only [Tryz.ntmps100, List.size_toArray, List.length_cons, List.length_nil, Nat.reduceAdd, Nat.reduceSub, Array.replicate_succ, Array.replicate_zero, List.push_toArray, List.append_toArray, List.nil_append, List.cons_append]
  gi_wp2_with (refine ⟨trivial, ?_⟩; gi_at_call 43; refine (each_in Fence.wide (3 - 1) trivial rfl _ _).mono ?_; rintro e w' ⟨rfl, rfl⟩)
  have bO := Boxed.new w 26 (.slice none 0 0)
  have bN := Boxed.new (w.alloc (.cells #[.slice none 0 0] 26)) 9 (.string a0)
  rw [World.size_alloc] at bN
  have hB0 : Below w.heap.size w ((w.alloc (.cells #[.slice none 0 0] 26)).alloc (.cells #[.string a0] 9)) := ((Below.refl _ w).alloc (Nat.le_refl _) _).alloc (by simp) _
  refine wpIn_rangeFunc_ownG (F := Fence.wide) rfl (by decide) (gf := 74) (lb := #[.pointer (some ⟨w.heap.size + 1, 0, none⟩)]) rfl trivial (enters_of Tryz.func74 (by kernel_rfl) rfl)
    (each_stops (3 - 1) (by decide) (w.heap.size + 1) a0 (by omega) _ (by simp) bN.cell) KeepsCell.trans keepsCell_b (Below.refl _ _) (fun _ => rfl)
    (fun (pre : List (Pc a0)) W => (∃ v, Boxed W w.heap.size 26 v ∧ W.ownsRow (w.heap.size + 2) 9 1 v pre.length (pre.map (fun x => Value.string x.1.2)) ∧ True) ∧ Below w.heap.size w W ∧ Boxed W (w.heap.size + 1) 9 (.string a0))
    (fun _ _ _ => False)
    (OwnFrom.and (Own.from (holdsRow_own (w.heap.size + 2) w.heap.size 26 9 1 (fun (pre : List (Pc a0)) => pre.length) (fun pre => pre.map (fun x => Value.string x.1.2)) (fun pre v => True)) _) (OwnFrom.and (ownFrom_below (Nat.le_refl _) (by simp; omega)) (Own.from (boxed_own _ _ _) _)))
    (fun _ _ _ _ _ hs _ _ => hs)
    ⟨⟨_, bO.alloc _, World.ownsRow_nil _ _ _ _, trivial⟩, hB0, bN⟩
    (fun (x : Pc a0) => { tmps := #[.string a0, undef, .slice none 0 0, .pointer (some ⟨w.heap.size, 0, none⟩), undef, .string x.1.2, .string a0, .func (.func 74) #[] #[.pointer (some ⟨w.heap.size + 1, 0, none⟩)], .int .i64 (x.1.1 : Int), .string x.1.2, undef, undef, undef, undef, undef], defers := [] }) ?assign ?body ?done ?stop
  case assign =>
    intro l x W K hK
    gi_wp2
    exact hK
  case body =>
    rintro l pre x W ⟨⟨v, hv, hrow, _⟩, hB2, hN⟩ hlt
    have hc := hv.cell
    have hsz := hN.lt
    gi_wp2_with (gi_at_builtin; refine wpListIn_append_own _ rfl _ _ 26 rfl (w.heap.size + 2) 9 i0 (.string ⟨#[]⟩) 1 16 Tryz.underlying26 hi hz0 hz1 hz2 rfl (by decide) _ _ _ rfl (hrow.alloc _) ⟨W.heap.size, 0, none⟩ 1 1 [.string x.1.2] rfl rfl (cell_one_new _ _ _) (by simp [Value.oneCell']) (by unfold maxLen; omega) (by omega) (by simp; omega) ?_; intro v' w1 hown' hgrow _; obtain ⟨g', cap', rfl⟩ := ownsRow_succ hown'; obtain ⟨hv1, hv2, hr2, hk2, hb2, hk1⟩ := boxed_appended (n₀ := w.heap.size) hv (by omega) hrow (by omega) (Nat.le_refl _) hown' hgrow; have hc1 := hv1.cell; have hf1 := hv1.frozen)
    have hkc : KeepsCell (w.heap.size + 1) W _ := fun v0 h0 => by
      have := hk1 (w.heap.size + 1) (by omega) (by omega)
      unfold World.cell? at h0 ⊢
      rw [this]; exact h0
    exact ⟨hk2.from _, hkc, ⟨_, hv2, by simpa using hr2, trivial⟩, hB2.trans hb2, (hk1 (w.heap.size + 1) (by omega) (by omega)).trans hN⟩
  case done =>
    rintro D ys W hD hys ⟨⟨v, hv, hrow, _⟩, hB, _⟩ hK
    have HY := Lib.hid hys
    clear hys
    have hc := hv.cell
    gi_wp2
    refine ⟨by simp, .inl ⟨_, _, rfl, run_takeDeferred hK, ?_⟩⟩
    refine ⟨_, results_tmp rfl _ _ _, v, rfl, ?_, hB.trans (belowK_b (w := w) (Nat.le_refl _) W D _ _ (by simp at hD; omega) hK rfl rfl)⟩
    have ho := ownsRow_putObj hrow (.deferred none) hK rfl
    refine Kd.R_of_own (enc := Value.string) ?_ (fun _ _ => trivial)
    rw [List.length_map, ← HY.out, List.length_map, List.map_map]
    have e : encs Value.string (ys.map ((·.2) ∘ (·.1))) = ys.map (fun x => Value.string x.1.2) := by unfold encs; rw [List.map_map]; rfl
    rw [e]
    exact own_weaken ho (by omega)
  case stop =>
    rintro D c pre W _ _ h _
    exact h.elim
end Go.Proofs.YtejnfbfikadpdaaGreatDoor.P
