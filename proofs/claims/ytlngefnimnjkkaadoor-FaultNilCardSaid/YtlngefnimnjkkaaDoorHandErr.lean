/- Errors, walked by hand: errors.As at a fault, fault.Kind, New, Place; the iterator over a chain of faults. -/
import Derived.Test.YtlngefnimnjkkaaDoorProg
import Derived.Test.YtlngefnimnjkkaaDoorWMore
import Derived.Below
import Derived.LaidEql
import Derived.Lib.Hide
import Derived.LoopIn
import Derived.LoopNIn
import Derived.Maps.AppendAt
import Derived.OwnWalkIn
import Derived.RangeFuncBound
import Derived.RangeFuncBox
import Derived.RangeFuncCalls
import Derived.RangeFuncLeaves
import Derived.RangeFuncNested
import Derived.RangeFuncWrites
import Derived.RowKitTokens
import Derived.Shelf.Abstract
import Derived.Shelf.RegionOpen
import Derived.Stop.Asserts
import Derived.TacticsInMore
import Derived.WalkKit
import Derived.WalkLawsBesides
import Derived.WalkMore
namespace Go.Proofs.YtlngefnimnjkkaaDoor.P
open Go.RowKit Go.Extern.Stop Go.Stop Go.Extern Go.Shelf Go.Proofs.YtlngefnimnjkkaaDoorW.PrintWords
set_option linter.unusedVariables false
set_option linter.unusedSimpArgs false
attribute [local go_sem] Oper.semAt_some

theorem V61 (t : Addr) (w : World) : (ReflectliteValue.unpack (.iface 55 (.pointer (some t)))).run Tryd.prog w
    = .ok (.agg #[.pointer (some ⟨4, 55, none⟩), .pointer (some ⟨w.heap.size, 0, none⟩), .int .u64 150]) (w.alloc (.cells #[.pointer (some t)] 55)) := by kernel_rfl
theorem V41 (n : Int) (w : World) : (ReflectliteValue.unpack (.iface 24 (.int .i64 n))).run Tryd.prog w
    = .ok (.agg #[.pointer (some ⟨4, 24, none⟩), .pointer (some ⟨w.heap.size, 0, none⟩), .int .u64 130]) (w.alloc (.cells #[.int .i64 n] 24)) := by kernel_rfl
theorem T61 (a : Addr) (w : World) : (ReflectliteValue.methodAny (ReflectliteValue.valueError "reflectlite.Value.Type" 0) (fun t _ _ _ => ReflectliteType.toType t) #[.agg #[.pointer (some ⟨4, 55, none⟩), .pointer (some a), .int .u64 150]]).run Tryd.prog w
    = .ok (.iface 81 (.agg #[.pointer (some ⟨4, 55, none⟩)])) w := by kernel_rfl
theorem kind61 (w : World) : ((ReflectliteType.abiMethod fun t => (fun a : Nat => Value.int IntKind.u8 (a : Int)) <$> Rtype.kind t) #[.pointer (some ⟨4, 55, none⟩)]).run Tryd.prog w = .ok (.int .u8 22) w := by kernel_rfl
theorem kind41 (w : World) : ((ReflectliteType.abiMethod fun t => (fun a : Nat => Value.int IntKind.u8 (a : Int)) <$> Rtype.kind t) #[.pointer (some ⟨4, 24, none⟩)]).run Tryd.prog w = .ok (.int .u8 2) w := by kernel_rfl
theorem rlm (z : Sem Value) (f : TypeId → Addr → Nat → Nat → Sem Value) (v : Value) :
    ReflectliteValue.method z f #[v] = (do match ← ReflectliteValue.parts v with | none => z | some (t, a, fl) => f t a fl (fl % 32)) := rfl
theorem parts61 (a : Addr) (w : World) : (ReflectliteValue.parts (.agg #[.pointer (some ⟨4, 55, none⟩), .pointer (some a), .int .u64 150])).run Tryd.prog w = .ok (some (55, a, 150)) w := by kernel_rfl
theorem isNil61 (a p : Addr) (W : World) (ha : W.cell? a = some (.pointer (some p))) :
    (ReflectliteValue.method (ReflectliteValue.valueError "reflectlite.Value.IsNil" 0) ReflectliteValue.isNil #[.agg #[.pointer (some ⟨4, 55, none⟩), .pointer (some a), .int .u64 150]]).run Tryd.prog W = .ok (.bool false) W := by
  rw [rlm]
  simp only [Sem.run_bind, parts61, Result.andThen]
  simp [ReflectliteValue.isNil, loadVar, isAgg, underlying, Tryd.underlying55, ha, Result.andThen]
theorem elem61 (w : World) : (ReflectliteType.method ReflectliteType.elem #[.agg #[.pointer (some ⟨4, 55, none⟩)]]).run Tryd.prog w = .ok (.iface 81 (.agg #[.pointer (some ⟨4, 24, none⟩)])) w := by kernel_rfl
theorem implements41 (w : World) : (ReflectliteType.relation "Implements" ReflectliteType.implements_ #[.agg #[.pointer (some ⟨4, 24, none⟩)], .iface 81 (.agg #[.pointer (some ⟨4, 29, none⟩)])]).run Tryd.prog w = .ok (.bool true) w := by kernel_rfl
theorem typeOf41 (v : Value) (w : World) : (ReflectliteType.typeOf #[.iface 24 v]).run Tryd.prog w = .ok (.iface 81 (.agg #[.pointer (some ⟨4, 24, none⟩)])) w := by kernel_rfl
theorem typeOf57 (v : Value) (w : World) : (ReflectliteType.typeOf #[.iface 45 v]).run Tryd.prog w = .ok (.iface 81 (.agg #[.pointer (some ⟨4, 45, none⟩)])) w := by kernel_rfl
theorem assignable41 (w : World) : (ReflectliteType.relation "AssignableTo" ReflectliteType.assignableTo #[.agg #[.pointer (some ⟨4, 24, none⟩)], .iface 81 (.agg #[.pointer (some ⟨4, 24, none⟩)])]).run Tryd.prog w = .ok (.bool true) w := by kernel_rfl
theorem assignable57 (w : World) : (ReflectliteType.relation "AssignableTo" ReflectliteType.assignableTo #[.agg #[.pointer (some ⟨4, 45, none⟩)], .iface 81 (.agg #[.pointer (some ⟨4, 24, none⟩)])]).run Tryd.prog w = .ok (.bool false) w := by kernel_rfl
theorem elemOf61 (w : World) : (Rtype.elem? 55).run Tryd.prog w = .ok (some 24) w := by kernel_rfl
theorem mk41 (p : Addr) (w : World) : (ReflectliteValue.mk 24 p ReflectliteValue.flagAddr).run Tryd.prog w = .ok (.agg #[.pointer (some ⟨4, 24, none⟩), .pointer (some p), .int .u64 386]) w := by kernel_rfl
theorem elemV61 (a p : Addr) (W : World) (ha : W.cell? a = some (.pointer (some p))) :
    (ReflectliteValue.method (ReflectliteValue.valueError "reflectlite.Value.Elem" 0) ReflectliteValue.elem #[.agg #[.pointer (some ⟨4, 55, none⟩), .pointer (some a), .int .u64 150]]).run Tryd.prog W
      = .ok (.agg #[.pointer (some ⟨4, 24, none⟩), .pointer (some p), .int .u64 386]) W := by
  rw [rlm]
  simp only [Sem.run_bind, parts61, Result.andThen]
  simp [ReflectliteValue.elem, loadVar, isAgg, underlying, Tryd.underlying55, ha, Result.andThen, elemOf61, mk41]
theorem rls (v x : Value) : ReflectliteValue.set #[v, x] = (do
    let (some (dst, a, fl), some (src, b, _)) := (← ReflectliteValue.parts v, ← ReflectliteValue.parts x)
      | unsupported (.noEntry "extern/(internal/reflectlite.Value).Set.zeroValue")
    if fl / ReflectliteValue.flagAddr % 2 == 0 then unsupported (.noEntry "extern/(internal/reflectlite.Value).Set.unaddressable")
    let val ← loadVar src b
    if ← Rtype.directlyAssignable dst src then storeVar dst a val
    else if ← Rtype.implements dst src then
      if (← Rtype.kind src) == 20 then
        match val with
        | .nilIface => unsupported (.noEntry "extern/reflectlite: a nil value of one interface type handed on as a value of another")
        | _ => storeVar dst a val
      else storeVar dst a (.iface src val)
    else panicString ("reflectlite.Set: value of type " ++ (← Rtype.spelt src) ++ " is not assignable to type " ++ (← Rtype.spelt dst))
    pure (.tuple #[])) := rfl
theorem parts41a (a : Addr) (w : World) : (ReflectliteValue.parts (.agg #[.pointer (some ⟨4, 24, none⟩), .pointer (some a), .int .u64 386])).run Tryd.prog w = .ok (some (24, a, 386)) w := by kernel_rfl
theorem parts41 (a : Addr) (w : World) : (ReflectliteValue.parts (.agg #[.pointer (some ⟨4, 24, none⟩), .pointer (some a), .int .u64 130])).run Tryd.prog w = .ok (some (24, a, 130)) w := by kernel_rfl
theorem direct41 (w : World) : (Rtype.directlyAssignable 24 24).run Tryd.prog w = .ok true w := by kernel_rfl
theorem set41 (ta b : Addr) (n : Int) (old : Value) (W : World) (hb : W.cell? b = some (.int .i64 n)) (ht : W.cell? ta = some old) (hf : W.frozen? ta = false) :
    (ReflectliteValue.set #[.agg #[.pointer (some ⟨4, 24, none⟩), .pointer (some ta), .int .u64 386], .agg #[.pointer (some ⟨4, 24, none⟩), .pointer (some b), .int .u64 130]]).run Tryd.prog W
      = .ok (.tuple #[]) (W.setCell ta (.int .i64 n)) := by
  rw [rls]
  simp only [Sem.run_bind, parts41a, parts41, Result.andThen]
  simp [ReflectliteValue.flagAddr, loadVar, isAgg, underlying, Tryd.underlying24, hb, Result.andThen, direct41, storeVar, Value.cells, storeCells, Addr.add]
  rw [run_store Tryd.prog W ta _ _ (by rfl)]
  simp [ht, hf]
theorem noAs57 (v : Value) (xT : TypeId) (w : World) : (Instr.typeAssert (.iface 45 v) xT 85 true).run Tryd.prog w = .ok (.tuple #[.nilIface, .bool false]) w := run_typeAssert_lacksB Tryd.underlying85 (by kernel_rfl) (by kernel_rfl) v xT w
theorem unwraps57 (v : Value) (xT : TypeId) (w : World) : (Instr.typeAssert (.iface 45 v) xT 75 true).run Tryd.prog w = .ok (.tuple #[.iface 45 v, .bool true]) w := run_typeAssert_hasB Tryd.underlying75 (by kernel_rfl) v xT w
theorem unwrap_at (B : Nat) (v : Value) (w : World) (h : w.cell? ⟨B, 2, none⟩ = some v) : Calls Tryd.prog 21 #[.pointer (some ⟨B, 0, none⟩)] w fun ev w' => ev = .returned v ∧ w' = w := by
  go_enter Tryd.func21, Tryd.ntmps21
  go_wp2
  go_ret
  exact ⟨rfl, rfl⟩
theorem method57 (h : Value) (w : World) : (Go.method 239 45 h "Unwrap").run Tryd.prog w = .ok (21, h) w := by kernel_rfl
theorem methodKind (h : Value) (w : World) : (Go.method 239 81 (.agg #[h]) "Kind").run Tryd.prog w = .ok (64, h) w := by kernel_rfl
theorem methodElem (h : Value) (w : World) : (Go.method 239 81 (.agg #[h]) "Elem").run Tryd.prog w = .ok (76, .agg #[h]) w := by kernel_rfl
theorem methodImplements (h : Value) (w : World) : (Go.method 239 81 (.agg #[h]) "Implements").run Tryd.prog w = .ok (77, .agg #[h]) w := by kernel_rfl
theorem methodAssignableTo (h : Value) (w : World) : (Go.method 239 81 (.agg #[h]) "AssignableTo").run Tryd.prog w = .ok (74, .agg #[h]) w := by kernel_rfl
/-! ### strange errors -/
theorem typeOfS (v : Value) (w : World) : (ReflectliteType.typeOf #[.iface 53 v]).run Tryd.prog w = .ok (.iface 81 (.agg #[.pointer (some ⟨4, 53, none⟩)])) w := by kernel_rfl
theorem assignableS (w : World) : (ReflectliteType.relation "AssignableTo" ReflectliteType.assignableTo #[.agg #[.pointer (some ⟨4, 53, none⟩)], .iface 81 (.agg #[.pointer (some ⟨4, 24, none⟩)])]).run Tryd.prog w = .ok (.bool false) w := by kernel_rfl
theorem noAsS (v : Value) (xT : TypeId) (w : World) : (Instr.typeAssert (.iface 53 v) xT 85 true).run Tryd.prog w = .ok (.tuple #[.nilIface, .bool false]) w := run_typeAssert_lacksB Tryd.underlying85 (by kernel_rfl) (by kernel_rfl) v xT w
theorem unwrapsS (v : Value) (xT : TypeId) (w : World) : (Instr.typeAssert (.iface 53 v) xT 75 true).run Tryd.prog w = .ok (.tuple #[.iface 53 v, .bool true]) w := run_typeAssert_hasB Tryd.underlying75 (by kernel_rfl) v xT w
theorem asS_57 (v : Value) (w : World) : (Instr.typeAssert (.iface 53 v) 29 45 true).run Tryd.prog w = .ok (.tuple #[.pointer none, .bool false]) w := by kernel_rfl
theorem asS_69 (v : Value) (xT : TypeId) (w : World) : (Instr.typeAssert (.iface 53 v) xT 76 true).run Tryd.prog w = .ok (.tuple #[.iface 53 v, .bool true]) w := run_typeAssert_hasB Tryd.underlying76 (by kernel_rfl) v xT w
theorem methodS (h : Value) (w : World) : (Go.method 239 53 h "Unwrap").run Tryd.prog w = .ok (69, h) w := by kernel_rfl
theorem unwrap_strange (v : Value) (w : World) : Calls Tryd.prog 69 #[.agg #[v]] w fun ev w' => ev = .returned v ∧ w' = w.alloc (.cells #[v] 53) := by
  go_enter Tryd.func69, Tryd.ntmps69
  go_wp2
  go_ret
  exact ⟨rfl, rfl⟩
theorem New_ok (n : Int) (at_ : Int) (what : ByteArray) (w : World) (hn : ¬ n = 0) : Calls Tryd.prog 11 #[.int .i64 n, .int .i64 at_, .string what] w fun ev w' => ev = .returned (.iface 45 (.pointer (some ⟨w.heap.size, 0, none⟩))) ∧ w' = w.alloc (.cells #[.int .i64 at_, .string what, .iface 24 (.int .i64 n)] 47) := by
  go_enter Tryd.func11, Tryd.ntmps11
  go_wp2
  go_ret
  exact ⟨rfl, rfl⟩

/-- A fault's cells. -/
structure FaultAt (w : World) (x : Nat × Int × ByteArray) (inner : Value) : Prop where
  at_ : w.cell? ⟨x.1, 0, none⟩ = some (.int .i64 x.2.1)
  what : w.cell? ⟨x.1, 1, none⟩ = some (.string x.2.2)
  inner : w.cell? ⟨x.1, 2, none⟩ = some inner
/-- The cells of faults stay as they were. -/
def KeepsF (L : List (Nat × Int × ByteArray)) (A C : World) : Prop := ∀ x ∈ L, ∀ j v, A.cell? ⟨x.1, j, none⟩ = some v → C.cell? ⟨x.1, j, none⟩ = some v
theorem KeepsF.refl (L : List (Nat × Int × ByteArray)) (A : World) : KeepsF L A A := fun _ _ _ _ h => h
theorem KeepsF.trans {L : List (Nat × Int × ByteArray)} {A C D : World} (h : KeepsF L A C) (k : KeepsF L C D) : KeepsF L A D := fun x hx j v hv => k x hx j v (h x hx j v hv)
theorem keepsF_b {L : List (Nat × Int × ByteArray)} {w : World} (W : World) (l : Nat) (o o' : Obj) (_ : w.heap.size ≤ l) (h : W.heap[l]? = some o) (hc : o.isCells = false) (_ : o.isWalk = false) : KeepsF L W (W.putObj l o') := by
  intro x _ j v hv
  have hne : x.1 ≠ l := by
    rintro e
    unfold World.cell? at hv
    rw [show (⟨x.1, j, none⟩ : Addr).block = l from e, h] at hv
    cases o <;> simp [Obj.isCells] at hc hv
  unfold World.cell? at hv ⊢
  rw [World.putObj_heap_other hne]
  exact hv
theorem KeepsF.below {L : List (Nat × Int × ByteArray)} {A C : World} (h : Below A.heap.size A C) : KeepsF L A C := fun x _ j v hv => by
  have hb : x.1 < A.heap.size := World.block_lt_of_cell? A _ hv
  unfold World.cell? at hv ⊢
  rw [h.block x.1 hb]; exact hv
/-! ### errors as plain data -/
inductive E where
  | nil : E
  | errno (n : Int) : E
  | fault (B : Nat) (a : Int) (s : ByteArray) (i : E) : E
  | strange (i : E) : E
/-- What an error is, in a world. -/
def E.is (w : World) : E → Value → Prop
  | .nil, v => v = .nilIface
  | .errno n, v => v = .iface 24 (.int .i64 n)
  | .fault B a s i, v => v = .iface 45 (.pointer (some ⟨B, 0, none⟩)) ∧ ∃ u, FaultAt w (B, a, s) u ∧ E.is w i u
  | .strange i, v => ∃ u, v = .iface 53 (.agg #[u]) ∧ E.is w i u
def E.items : E → List (Nat × Int × ByteArray)
  | .nil => []
  | .errno _ => []
  | .fault B a s i => (B, a, s) :: i.items
  | .strange i => i.items
def E.kind : E → Option Int
  | .nil => none
  | .errno n => some n
  | .fault _ _ _ i => i.kind
  | .strange i => i.kind
def E.depth : E → Nat
  | .nil => 0
  | .errno _ => 0
  | .fault _ _ _ i => i.depth + 1
  | .strange i => i.depth + 1
theorem FaultAt.mono {w w' : World} {L : List (Nat × Int × ByteArray)} {x : Nat × Int × ByteArray} {v : Value} (h : FaultAt w x v) (hk : KeepsF L w w') (hx : x ∈ L) : FaultAt w' x v :=
  ⟨hk x hx _ _ h.at_, hk x hx _ _ h.what, hk x hx _ _ h.inner⟩
theorem E.is_mono {w w' : World} {L : List (Nat × Int × ByteArray)} (hk : KeepsF L w w') : ∀ {x : E} {v : Value}, E.is w x v → (∀ y ∈ x.items, y ∈ L) → E.is w' x v
  | .nil, _, h, _ => h
  | .errno _, _, h, _ => h
  | .fault B a s i, _, ⟨e, u, hf, hi⟩, hs => ⟨e, u, hf.mono hk (hs _ List.mem_cons_self), E.is_mono hk hi fun y hy => hs y (List.mem_cons_of_mem _ hy)⟩
  | .strange i, _, ⟨u, e, hi⟩, hs => ⟨u, e, E.is_mono hk hi hs⟩
theorem E.is_below {w w' : World} {x : E} {v : Value} (h : E.is w x v) (hb : Below w.heap.size w w') : E.is w' x v := E.is_mono (L := x.items) (KeepsF.below hb) h fun _ hy => hy
theorem FaultAt.uniq {w : World} {x y : Nat × Int × ByteArray} {v v' : Value} (h : FaultAt w x v) (h' : FaultAt w y v') (e : x.1 = y.1) : x = y ∧ v = v' := by
  have h1 := h.at_; have h2 := h.what; have h3 := h.inner
  rw [e] at h1 h2 h3
  obtain ⟨x1, x2, x3⟩ := x
  obtain ⟨y1, y2, y3⟩ := y
  have e1 := Option.some.inj (h1.symm.trans h'.at_)
  have e2 := Option.some.inj (h2.symm.trans h'.what)
  have e3 := Option.some.inj (h3.symm.trans h'.inner)
  simp only [Value.int.injEq, Value.string.injEq] at e1 e2
  dsimp only at e
  obtain ⟨_, rfl⟩ := e1
  subst e e2
  exact ⟨rfl, e3⟩
theorem E.uniq {w : World} : ∀ {x y : E} {v : Value}, E.is w x v → E.is w y v → x = y
  | .nil, .nil, _, _, _ => rfl
  | .nil, .errno _, _, h, h' => by cases h.symm.trans h'
  | .nil, .fault _ _ _ _, _, h, h' => by cases h.symm.trans h'.1
  | .nil, .strange _, _, h, ⟨_, h', _⟩ => by cases h.symm.trans h'
  | .errno _, .nil, _, h, h' => by cases h.symm.trans h'
  | .errno _, .errno _, _, h, h' => by cases h.symm.trans h'; rfl
  | .errno _, .fault _ _ _ _, _, h, h' => by cases h.symm.trans h'.1
  | .errno _, .strange _, _, h, ⟨_, h', _⟩ => by cases h.symm.trans h'
  | .fault _ _ _ _, .nil, _, h, h' => by cases h.1.symm.trans h'
  | .fault _ _ _ _, .errno _, _, h, h' => by cases h.1.symm.trans h'
  | .fault B a s i, .fault B' a' s' i', _, ⟨e, u, hf, hi⟩, ⟨e', u', hf', hi'⟩ => by
    have eb : B = B' := by have := e.symm.trans e'; injection this with _ h; injection h with h; injection h with h; injection h
    obtain ⟨ex, eu⟩ := hf.uniq hf' eb
    cases ex
    subst eu
    rw [E.uniq hi hi']
  | .fault _ _ _ _, .strange _, _, h, ⟨_, h', _⟩ => by cases h.1.symm.trans h'
  | .strange _, .nil, _, ⟨_, h, _⟩, h' => by cases h.symm.trans h'
  | .strange _, .errno _, _, ⟨_, h, _⟩, h' => by cases h.symm.trans h'
  | .strange _, .fault _ _ _ _, _, ⟨_, h, _⟩, h' => by cases h.symm.trans h'.1
  | .strange i, .strange i', _, ⟨u, h, hi⟩, ⟨u', h', hi'⟩ => by
    have eu : u = u' := by have := h.symm.trans h'; injection this with _ h; injection h with h; simpa using h
    subst eu
    rw [E.uniq hi hi']
open Classical in
/-- How deep an error is. -/
noncomputable def eDepth (w : World) (v : Value) : Nat := if h : ∃ x : E, E.is w x v then (Classical.choose h).depth else 0
theorem eDepth_eq {w : World} {v : Value} {x : E} (h : E.is w x v) : eDepth w v = x.depth := by
  have hx : ∃ x : E, E.is w x v := ⟨x, h⟩
  unfold eDepth
  rw [dif_pos hx, E.uniq (Classical.choose_spec hx) h]
/-- An error: its faults, from the outermost one on, and its kind. -/
def Err (w : World) (v : Value) (L : List (Nat × Int × ByteArray)) (k : Option Int) : Prop := ∃ x : E, E.is w x v ∧ x.items = L ∧ x.kind = k
theorem E.err {w : World} {x : E} {v : Value} (h : E.is w x v) : Err w v x.items x.kind := ⟨x, h, rfl, rfl⟩
theorem Err.mono {w w' : World} {v : Value} {L l : List (Nat × Int × ByteArray)} {k : Option Int} (h : Err w v l k) (hk : KeepsF L w w') (hs : ∀ x ∈ l, x ∈ L) : Err w' v l k := by
  obtain ⟨x, hx, rfl, rfl⟩ := h
  exact ⟨x, E.is_mono hk hx hs, rfl, rfl⟩
theorem Err.keeps {w w' : World} {v : Value} {l : List (Nat × Int × ByteArray)} {k : Option Int} (h : Err w v l k) (hk : Below w.heap.size w w') : Err w' v l k := h.mono (L := l) (KeepsF.below hk) fun _ hx => hx
theorem E.isIface {w : World} : ∀ {x : E} {v : Value}, E.is w x v → v = .nilIface ∨ ∃ t u, v = .iface t u
  | .nil, _, h => .inl h
  | .errno _, _, h => .inr ⟨_, _, h⟩
  | .fault _ _ _ _, _, h => .inr ⟨_, _, h.1⟩
  | .strange _, _, ⟨_, h, _⟩ => .inr ⟨_, _, h⟩
theorem Err.isIface {w : World} {v : Value} {l : List (Nat × Int × ByteArray)} {k : Option Int} (h : Err w v l k) : v = .nilIface ∨ ∃ t u, v = .iface t u := h.elim fun _ hx => E.isIface hx.1
theorem E.mem {w : World} : ∀ {x : E} {v : Value}, E.is w x v → ∀ {y : Nat × Int × ByteArray}, y ∈ x.items → ∃ inner, FaultAt w y inner
  | .nil, _, _, _, hy => by cases hy
  | .errno _, _, _, _, hy => by cases hy
  | .fault B a s i, _, ⟨_, u, hf, hi⟩, y, hy => by
    rcases List.mem_cons.1 hy with rfl | hy
    · exact ⟨_, hf⟩
    · exact E.mem hi hy
  | .strange i, _, ⟨_, _, hi⟩, _, hy => E.mem hi hy
theorem Err.mem {w : World} {v : Value} {l : List (Nat × Int × ByteArray)} {k : Option Int} (h : Err w v l k) {x : Nat × Int × ByteArray} (hx : x ∈ l) : ∃ inner, FaultAt w x inner := by
  obtain ⟨y, hy, rfl, _⟩ := h
  exact E.mem hy hx
theorem as57_57 (v : Value) (w : World) : (Instr.typeAssert (.iface 45 v) 29 45 true).run Tryd.prog w = .ok (.tuple #[v, .bool true]) w := by kernel_rfl
theorem as41_57 (v : Value) (w : World) : (Instr.typeAssert (.iface 24 v) 29 45 true).run Tryd.prog w = .ok (.tuple #[.pointer none, .bool false]) w := by kernel_rfl
theorem as57_69 (v : Value) (xT : TypeId) (w : World) : (Instr.typeAssert (.iface 45 v) xT 76 true).run Tryd.prog w = .ok (.tuple #[.iface 45 v, .bool true]) w := run_typeAssert_hasB Tryd.underlying76 (by kernel_rfl) v xT w
theorem as41_69 (v : Value) (xT : TypeId) (w : World) : (Instr.typeAssert (.iface 24 v) xT 76 true).run Tryd.prog w = .ok (.tuple #[.nilIface, .bool false]) w := run_typeAssert_lacksB Tryd.underlying76 (by kernel_rfl) (by kernel_rfl) v xT w
theorem faults_in (F : Fence) (n : Nat) (h5 : F.fn 25) (hro : F.round = none) (e : Value) (he : e = .nilIface ∨ ∃ t v, e = .iface t v) (w : World) :
    CallsIn F n Tryd.prog 25 #[e] w fun ev w' => ev = .returned (.func (.func 32) #[] #[.pointer (some ⟨w.heap.size, 0, none⟩)]) ∧ w' = w.alloc (.cells #[e] 29) := by
  refine callsIn_of_wp Tryd.func25 rfl h5 ?_ hro
  simp only [Tryd.ntmps25, List.size_toArray, List.length_cons, List.length_nil, Nat.reduceAdd, Nat.reduceSub, Array.replicate_succ, Array.replicate_zero, List.push_toArray, List.append_toArray, List.nil_append, List.cons_append]
  rcases he with rfl | ⟨t, v, rfl⟩ <;> gi_wp2 <;> go_ret <;> exact ⟨rfl, rfl⟩
set_option maxRecDepth 100000 in
set_option maxHeartbeats 2000000 in
theorem faults1_in (n : Nat) (hn : 1 ≤ n) (l B : Nat) (e : Value) (L : List (Nat × Int × ByteArray)) (k : Option Int) (J Jx : List (Nat × Int × ByteArray) → World → Prop)
    (hY : ∀ pre x W, J pre W → pre ++ [x] <+: L → YieldAt Fence.wide (n - 1) Tryd.prog l #[.pointer (some ⟨x.1, 0, none⟩)] W fun e W' =>
      (e = .returned (.bool true) ∧ J (pre ++ [x]) W' ∧ KeepsF L W W') ∨ (e = .returned (.bool false) ∧ Jx (pre ++ [x]) W'))
    (hA : ∀ pre V o, J pre V → J pre (V.alloc o)) (W : World) (hB : W.cell? ⟨B, 0, none⟩ = some e) (hE : Err W e L k) (h0 : J [] W) :
    CallsIn Fence.wide n Tryd.prog 32 #[.func (.yield l) #[] #[], .pointer (some ⟨B, 0, none⟩)] W fun ev W' => (∃ v, ev = .returned v) ∧
      ((∃ ys, ys = L ∧ J ys W') ∨ (∃ pre, pre <+: L ∧ Jx pre W')) := by
  have u1 := as57_57
  have u2 := as41_57
  have u3 := as57_69
  have u4 := as41_69
  have u5 := asS_57
  have u6 := asS_69
  have mU := method57
  have mS := methodS
  refine callsIn_of_wp Tryd.func32 rfl trivial ?_ rfl
  simp only [Tryd.ntmps32, List.size_toArray, List.length_cons, List.length_nil, Nat.reduceAdd, Nat.reduceSub, Array.replicate_succ, Array.replicate_zero, List.push_toArray, List.append_toArray, List.nil_append, List.cons_append]
  obtain ⟨x0, hx0, hL0, _⟩ := hE
  have HE := Lib.hid hx0
  have HL0 := Lib.hid hL0
  clear hx0 hL0
  gi_wp2
  gi_loopw [3] (fun v wr => ∃ (pre : List (Nat × Int × ByteArray)) (x : E), Hid (L = pre ++ x.items) ∧ Hid (E.is wr x v) ∧ J pre wr) (fun v wr => eDepth wr v)
  case atStart => exact ⟨[], x0, HL0.out.symm, HE, h0⟩
  case round =>
    obtain ⟨pre, x, hx, hr, hJs⟩ := hrel
    cases x with
    | nil =>
      have HX : Hid (L = pre) := by have := hx.out; rwa [show E.nil.items = [] from rfl, List.append_nil] at this
      obtain rfl := hr.out
      clear hr hx
      gi_wp2
      go_end0
      exact ⟨⟨_, rfl⟩, .inl ⟨_, HX.out.symm, hJs⟩⟩
    | errno m =>
      have HX : Hid (L = pre) := by have := hx.out; rwa [show (E.errno m).items = [] from rfl, List.append_nil] at this
      obtain rfl := hr.out
      clear hr hx
      gi_wp2
      refine ⟨fun _ h => (by cases h), ?_⟩
      gi_wp2
      refine bodyPost_ret (results_none rfl _ _ _) rfl ?_
      exact ⟨⟨_, rfl⟩, .inl ⟨_, HX.out.symm, hJs⟩⟩
    | strange i =>
      have HX : Hid (L = pre ++ i.items) := hx
      have hsz := eDepth_eq hr.out
      obtain ⟨u, rfl, hi⟩ := hr.out
      have HI := Lib.hid hi
      have HSZ := Lib.hid hsz
      clear hr hx hi hsz
      gi_wp2
      refine ⟨fun _ h => (by cases h), ?_⟩
      gi_wp2_with (refine ⟨trivial, ?_⟩; gi_at_call 69; refine (callsIn_wide.2 (unwrap_strange u _)).mono ?_; rintro e w' ⟨rfl, rfl⟩)
      have HI2 : Hid (E.is (wr.alloc (.cells #[u] 53)) i u) := Lib.hid (E.is_below HI.out ((Below.refl wr.heap.size wr).alloc (Nat.le_refl _) _))
      go_roundw
      case rel => exact ⟨pre, i, HX, HI2, hA _ _ _ hJs⟩
      case measure => rw [HSZ.out, eDepth_eq HI2.out]; exact Nat.lt_succ_self _
    | fault xB xa xs i =>
      have HX : Hid (L = pre ++ (xB, xa, xs) :: i.items) := hx
      have hsz := eDepth_eq hr.out
      obtain ⟨rfl, inner, hf, he⟩ := hr.out
      have hlen : pre ++ [(xB, xa, xs)] <+: L := ⟨i.items, by rw [HX.out]; simp⟩
      obtain ⟨fn, tmps, assign, body, hy, hR⟩ := hY pre (xB, xa, xs) wr hJs hlen
      have HF := Lib.hid hf
      have HE2 := Lib.hid he
      have HSZ := Lib.hid hsz
      clear hr hx hlen hf he hsz
      gi_wp2
      refine hR.mono ?_
      have hxL : (xB, xa, xs) ∈ L := by rw [HX.out]; simp
      rintro e' W3 (⟨rfl, hJ3, hk3⟩ | ⟨rfl, hJx3⟩)
      · have hin := hk3 _ hxL 2 _ HF.out.inner
        have HE3 := Lib.hid (E.is_mono hk3 HE2.out fun y hy => by rw [HX.out]; simp [hy])
        gi_wp2_with (refine ⟨trivial, ?_⟩; gi_at_call 21; refine (callsIn_wide.2 (unwrap_at xB inner _ hin)).mono ?_; rintro e w' ⟨rfl, rfl⟩)
        go_roundw
        case rel => exact ⟨pre ++ [(xB, xa, xs)], i, (by show L = _; rw [HX.out]; simp), HE3, hJ3⟩
        case measure => rw [HSZ.out, eDepth_eq HE3.out]; exact Nat.lt_succ_self _
      · gi_wp2
        refine bodyPost_ret (results_none rfl _ _ _) rfl ?_
        exact ⟨⟨_, rfl⟩, .inr ⟨pre ++ [(xB, xa, xs)], ⟨i.items, by rw [HX.out]; simp⟩, hJx3⟩⟩
abbrev Fx (L : List (Nat × Int × ByteArray)) := {x : Nat × Int × ByteArray // x ∈ L}
theorem faults_stops (n : Nat) (hn : 1 ≤ n) (B : Nat) (e : Value) (L : List (Nat × Int × ByteArray)) (k : Option Int) (w : World) (hB : B < w.heap.size) (hc : w.cell? ⟨B, 0, none⟩ = some e) (hE : Err w e L k) :
    SeqStopsK Fence.wide n Tryd.prog 32 #[.pointer (some ⟨B, 0, none⟩)] (fun x : Fx L => #[.pointer (some ⟨x.1.1, 0, none⟩)]) (KeepsF L) (fun ys => ys.map (·.1) = L) (fun pre => pre.map (·.1) <+: L) L.length w := fun l J Jx W hW hJA _ hY h0 => by
  refine (faults1_in n hn l B e L k (fun pre W => ∃ p : List (Fx L), p.map (·.1) = pre ∧ J p W) (fun pre W => ∃ p : List (Fx L), p.map (·.1) = pre ∧ Jx p W) ?_ (fun pre V o ⟨p, hp, hj⟩ => ⟨p, hp, hJA _ _ _ none hj (World.grownBy_alloc V o none) (fun r e => by cases e)⟩) W ((hW.cell (p := ⟨B, 0, none⟩) hB).trans hc) (hE.keeps hW) ⟨[], rfl, h0⟩).mono ?_
  · rintro pre x W ⟨p, rfl, hj⟩ hp
    have hx : x ∈ L := hp.subset (by simp)
    have hl : p.length < L.length := by
      have := hp.length_le
      simp only [List.length_append, List.length_map, List.length_cons, List.length_nil] at this
      omega
    obtain ⟨fn, tmps, assign, body, hy, hR⟩ := hY p ⟨x, hx⟩ W hj hl
    refine ⟨fn, tmps, assign, body, hy, hR.mono ?_⟩
    rintro e W' (⟨he, hj', hk⟩ | ⟨he, hj'⟩)
    · exact .inl ⟨he, ⟨p ++ [⟨x, hx⟩], by simp, hj'⟩, hk⟩
    · exact .inr ⟨he, p ++ [⟨x, hx⟩], by simp, hj'⟩
  · rintro e W' ⟨he, ⟨ys, rfl, p, hp, hj⟩ | ⟨pre, hpre, p, rfl, hj⟩⟩
    · exact ⟨he, .inl ⟨p, hp, hj⟩⟩
    · exact ⟨he, .inr ⟨p, hpre, hj⟩⟩
def placeOf : List (Nat × Int × ByteArray) → Int
  | [] => -1
  | x :: _ => x.2.1
theorem placeOf_prefix {p L : List (Nat × Int × ByteArray)} (h : p <+: L) (hne : p ≠ []) : placeOf p = placeOf L := by
  obtain ⟨t, rfl⟩ := h
  cases p with
  | nil => exact absurd rfl hne
  | cons x p => rfl
theorem FaultAt.below {w w' : World} {x : Nat × Int × ByteArray} {v : Value} (h : FaultAt w x v) (hb : Below w.heap.size w w') : FaultAt w' x v :=
  have hk : KeepsF [x] w w' := KeepsF.below hb
  ⟨hk x List.mem_cons_self _ _ h.at_, hk x List.mem_cons_self _ _ h.what, hk x List.mem_cons_self _ _ h.inner⟩
theorem FaultAt.lt {w : World} {x : Nat × Int × ByteArray} {v : Value} (h : FaultAt w x v) : x.1 < w.heap.size := World.block_lt_of_cell? w _ h.at_
set_option maxRecDepth 100000 in
set_option maxHeartbeats 4000000 in
theorem Place_calls (e : Value) (L : List (Nat × Int × ByteArray)) (k : Option Int) (w : World) (hE : Err w e L k) :
    Calls Tryd.prog 16 #[e] w fun ev w' => ev = .returned (.int .i64 (placeOf L)) ∧ Below w.heap.size w w' := by
  refine (callsIn_wide (n := 3)).1 ?_
  refine callsIn_of_wp_marks Tryd.func16 rfl trivial ?_ rfl
  simp only [Tryd.ntmps16, List.size_toArray, List.length_cons, List.length_nil, Nat.reduceAdd, Nat.reduceSub, Array.replicate_succ, Array.replicate_zero, List.push_toArray, List.append_toArray, List.nil_append, List.cons_append]
  have HE := Lib.hid hE
  clear hE
  have b0 := Boxed.new w 3 (.int .i64 0)
  have B0 := Lib.hid b0
  clear b0
  gi_wp2_with (refine ⟨trivial, ?_⟩; gi_at_call 25; refine (faults_in Fence.wide (3 - 1) trivial rfl _ HE.out.isIface _).mono ?_; rintro e_ w' ⟨rfl, rfl⟩)
  have bN := Boxed.new (w.alloc (.cells #[.int .i64 0] 3)) 29 e
  rw [World.size_alloc] at bN
  have hB0 : Below w.heap.size w ((w.alloc (.cells #[.int .i64 0] 3)).alloc (.cells #[e] 29)) := ((Below.refl _ w).alloc (Nat.le_refl _) _).alloc (by simp) _
  refine wpIn_rangeFunc_ownG (F := Fence.wide) rfl (by decide) (gf := 32) (lb := #[.pointer (some ⟨w.heap.size + 1, 0, none⟩)]) rfl trivial (enters_of Tryd.func32 (by kernel_rfl) rfl)
    (faults_stops (3 - 1) (by decide) (w.heap.size + 1) e L k _ (by simp) bN.cell (HE.out.keeps hB0)) KeepsF.trans keepsF_b (Below.refl _ _) (fun _ => rfl)
    (fun (pre : List (Fx L)) W => Boxed W w.heap.size 3 (.int .i64 0) ∧ Below w.heap.size w W ∧ Hid (pre = []))
    (fun c (pre : List (Fx L)) W => Boxed W w.heap.size 3 (.int .i64 (placeOf (pre.map (·.1)))) ∧ Below w.heap.size w W ∧ Hid (c = .ret ∧ pre ≠ []))
    (OwnFrom.and (Own.from (boxed_own _ _ _) _) (OwnFrom.and (ownFrom_below (Nat.le_refl _) (by simp; omega)) (ownFrom_pure _ _)))
    (fun c => OwnFrom.and (Own.from (boxed_own _ _ (fun (pre : List (Fx L)) => Value.int .i64 (placeOf (pre.map (·.1))))) _) (OwnFrom.and (ownFrom_below (Nat.le_refl _) (by simp; omega)) (ownFrom_pure _ _)))
    ⟨B0.out.alloc _, hB0, rfl⟩
    (fun (x : Fx L) => { tmps := #[e, undef, .pointer (some ⟨w.heap.size, 0, none⟩), .pointer (some ⟨x.1.1, 0, none⟩), e, .func (.func 32) #[] #[.pointer (some ⟨w.heap.size + 1, 0, none⟩)], .pointer (some ⟨x.1.1, 0, none⟩), undef, undef, undef, undef], defers := [] }) ?assign ?body ?done ?stop
  case assign =>
    intro l x V K hK
    gi_wp2
    exact hK
  case body =>
    rintro l pre x V ⟨hb, hbel, hpre⟩ hlen
    obtain ⟨inner, hf⟩ := HE.out.mem x.2
    have hf2 := hf.below hbel
    have ha := hf2.at_
    have hcr := hb.cell
    have hcf := hb.frozen
    have hlt := hf.lt
    have HB := Lib.hid hb
    have HBel := Lib.hid hbel
    have HFx := Lib.hid hf2
    clear hf hf2 hb hbel
    gi_wp2
    refine ⟨(KeepsOthers.setCell _ _ _).from _, ?_, HBel.out.setCell (p := ⟨w.heap.size, 0, none⟩) (Nat.le_refl _) _, rfl, by simp⟩
    obtain rfl := hpre.out
    exact HB.out.set _
  case done =>
    rintro D ys V hD hys ⟨hb, hbel, hpre⟩ hK
    obtain rfl := hpre.out
    obtain rfl : L = [] := hys.symm
    have HK := Lib.hid hK
    have hcr := hb.cell
    have hcf := hb.frozen
    gi_wp2
    have hDw : w.heap.size + 2 ≤ D := by simpa using hD
    have hK2 : (V.setCell ⟨w.heap.size, 0, none⟩ (.int .i64 (-1))).heap[D]? = some (.deferred (some [])) := (Below.heap_setCell V ⟨w.heap.size, 0, none⟩ _ D (by simp; omega)).trans HK.out
    refine ⟨by simp, .inl ⟨_, _, rfl, run_takeDeferred hK2, ?_⟩⟩
    have hbx : Boxed ((V.setCell ⟨w.heap.size, 0, none⟩ (.int .i64 (-1))).putObj D (.deferred none)) w.heap.size 3 (.int .i64 (-1)) := (World.putObj_heap_other (by omega)).trans (hb.set _)
    have hcell := hbx.cell
    exact ⟨.int .i64 (-1), by simp [results, Tryd.f16, go_sem, hcell], rfl, (hbel.setCell (p := ⟨w.heap.size, 0, none⟩) (Nat.le_refl _) _).trans (belowK_b (w := w) (Nat.le_refl _) _ D _ _ (by omega) hK2 rfl rfl)⟩
  case stop =>
    rintro D c pre V hD hp ⟨hb, hbel, hn⟩ hK
    obtain ⟨rfl, hne⟩ := hn.out
    have hcr := hb.cell
    gi_wp2
    have hDw : w.heap.size + 2 ≤ D := by simpa using hD
    refine ⟨by simp, .inl ⟨_, _, rfl, run_takeDeferred hK, ?_⟩⟩
    have hbx : Boxed (V.putObj D (.deferred none)) w.heap.size 3 (.int .i64 (placeOf (pre.map (·.1)))) := (World.putObj_heap_other (by omega)).trans hb
    have hcell := hbx.cell
    rw [placeOf_prefix hp (by simpa using hne)] at hcell
    exact ⟨.int .i64 (placeOf L), by simp [results, Tryd.f16, go_sem, hcell], rfl, hbel.trans (belowK_b (w := w) (Nat.le_refl _) _ D _ _ (by omega) hK rfl rfl)⟩
/-- What errors.errorType holds. -/
abbrev errGV : Value := .iface 81 (.agg #[.pointer (some ⟨4, 29, none⟩)])
end Go.Proofs.YtlngefnimnjkkaaDoor.P
