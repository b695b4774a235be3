/- Errors, walked by hand: errors.As at a fault, fault.Kind, New, Place; the iterator over a chain of faults. -/
import Derived.Test.YtejnfbfikadpdaaGreatDoorProg
import Derived.Test.YtejnfbfikadpdaaGreatDoorHand1
import Derived.Below
import Derived.LaidEql
import Derived.Lib.Hide
import Derived.LoopIn
import Derived.LoopNIn
import Derived.Maps.AppendAt
import Derived.OwnWalkIn
import Derived.RangeFuncBound
import Derived.RangeFuncBox
import Derived.RangeFuncCalls
import Derived.RangeFuncLeaves
import Derived.RangeFuncNested
import Derived.RangeFuncWrites
import Derived.RowKitTokens
import Derived.Shelf.Abstract
import Derived.Shelf.RegionOpen
import Derived.Stop.Asserts
import Derived.TacticsInMore
import Derived.WalkKit
import Derived.WalkLawsBesides
import Derived.WalkMore
namespace Go.Proofs.YtejnfbfikadpdaaGreatDoor.P
open Go.RowKit Go.Extern.Stop Go.Stop Go.Extern Go.Shelf Go.Proofs.YtejnfbfikadpdaaGreatDoorW.PrintWords
attribute [local go_sem] Oper.semAt_some
theorem V61 (t : Addr) (w : World) : (ReflectliteValue.unpack (.iface 89 (.pointer (some t)))).run Tryz.prog w
    = .ok (.agg #[.pointer (some ⟨3, 89, none⟩), .pointer (some ⟨w.heap.size, 0, none⟩), .int .u64 150]) (w.alloc (.cells #[.pointer (some t)] 89)) := by kernel_rfl
theorem V41 (n : Int) (w : World) : (ReflectliteValue.unpack (.iface 49 (.int .i64 n))).run Tryz.prog w
    = .ok (.agg #[.pointer (some ⟨3, 49, none⟩), .pointer (some ⟨w.heap.size, 0, none⟩), .int .u64 130]) (w.alloc (.cells #[.int .i64 n] 49)) := by kernel_rfl
theorem T61 (a : Addr) (w : World) : (ReflectliteValue.methodAny (ReflectliteValue.valueError "reflectlite.Value.Type" 0) (fun t _ _ _ => ReflectliteType.toType t) #[.agg #[.pointer (some ⟨3, 89, none⟩), .pointer (some a), .int .u64 150]]).run Tryz.prog w
    = .ok (.iface 156 (.agg #[.pointer (some ⟨3, 89, none⟩)])) w := by kernel_rfl
theorem kind61 (w : World) : ((ReflectliteType.abiMethod fun t => (fun a : Nat => Value.int IntKind.u8 (a : Int)) <$> Rtype.kind t) #[.pointer (some ⟨3, 89, none⟩)]).run Tryz.prog w = .ok (.int .u8 22) w := by kernel_rfl
theorem kind41 (w : World) : ((ReflectliteType.abiMethod fun t => (fun a : Nat => Value.int IntKind.u8 (a : Int)) <$> Rtype.kind t) #[.pointer (some ⟨3, 49, none⟩)]).run Tryz.prog w = .ok (.int .u8 2) w := by kernel_rfl
theorem rlm (z : Sem Value) (f : TypeId → Addr → Nat → Nat → Sem Value) (v : Value) :
    ReflectliteValue.method z f #[v] = (do match ← ReflectliteValue.parts v with | none => z | some (t, a, fl) => f t a fl (fl % 32)) := rfl
theorem parts61 (a : Addr) (w : World) : (ReflectliteValue.parts (.agg #[.pointer (some ⟨3, 89, none⟩), .pointer (some a), .int .u64 150])).run Tryz.prog w = .ok (some (89, a, 150)) w := by kernel_rfl
theorem isNil61 (a p : Addr) (W : World) (ha : W.cell? a = some (.pointer (some p))) :
    (ReflectliteValue.method (ReflectliteValue.valueError "reflectlite.Value.IsNil" 0) ReflectliteValue.isNil #[.agg #[.pointer (some ⟨3, 89, none⟩), .pointer (some a), .int .u64 150]]).run Tryz.prog W = .ok (.bool false) W := by
  rw [rlm]
  simp only [Sem.run_bind, parts61, Result.andThen]
  simp [ReflectliteValue.isNil, loadVar, isAgg, underlying, Tryz.underlying89, ha, Result.andThen]
theorem elem61 (w : World) : (ReflectliteType.method ReflectliteType.elem #[.agg #[.pointer (some ⟨3, 89, none⟩)]]).run Tryz.prog w = .ok (.iface 156 (.agg #[.pointer (some ⟨3, 49, none⟩)])) w := by kernel_rfl
theorem implements41 (w : World) : (ReflectliteType.relation "Implements" ReflectliteType.implements_ #[.agg #[.pointer (some ⟨3, 49, none⟩)], .iface 156 (.agg #[.pointer (some ⟨3, 33, none⟩)])]).run Tryz.prog w = .ok (.bool true) w := by kernel_rfl
theorem typeOf41 (v : Value) (w : World) : (ReflectliteType.typeOf #[.iface 49 v]).run Tryz.prog w = .ok (.iface 156 (.agg #[.pointer (some ⟨3, 49, none⟩)])) w := by kernel_rfl
theorem typeOf57 (v : Value) (w : World) : (ReflectliteType.typeOf #[.iface 93 v]).run Tryz.prog w = .ok (.iface 156 (.agg #[.pointer (some ⟨3, 93, none⟩)])) w := by kernel_rfl
theorem assignable41 (w : World) : (ReflectliteType.relation "AssignableTo" ReflectliteType.assignableTo #[.agg #[.pointer (some ⟨3, 49, none⟩)], .iface 156 (.agg #[.pointer (some ⟨3, 49, none⟩)])]).run Tryz.prog w = .ok (.bool true) w := by kernel_rfl
theorem assignable57 (w : World) : (ReflectliteType.relation "AssignableTo" ReflectliteType.assignableTo #[.agg #[.pointer (some ⟨3, 93, none⟩)], .iface 156 (.agg #[.pointer (some ⟨3, 49, none⟩)])]).run Tryz.prog w = .ok (.bool false) w := by kernel_rfl
theorem elemOf61 (w : World) : (Rtype.elem? 89).run Tryz.prog w = .ok (some 49) w := by kernel_rfl
theorem mk41 (p : Addr) (w : World) : (ReflectliteValue.mk 49 p ReflectliteValue.flagAddr).run Tryz.prog w = .ok (.agg #[.pointer (some ⟨3, 49, none⟩), .pointer (some p), .int .u64 386]) w := by kernel_rfl
theorem elemV61 (a p : Addr) (W : World) (ha : W.cell? a = some (.pointer (some p))) :
    (ReflectliteValue.method (ReflectliteValue.valueError "reflectlite.Value.Elem" 0) ReflectliteValue.elem #[.agg #[.pointer (some ⟨3, 89, none⟩), .pointer (some a), .int .u64 150]]).run Tryz.prog W
      = .ok (.agg #[.pointer (some ⟨3, 49, none⟩), .pointer (some p), .int .u64 386]) W := by
  rw [rlm]
  simp only [Sem.run_bind, parts61, Result.andThen]
  simp [ReflectliteValue.elem, loadVar, isAgg, underlying, Tryz.underlying89, ha, Result.andThen, elemOf61, mk41]
theorem rls (v x : Value) : ReflectliteValue.set #[v, x] = (do
    let (some (dst, a, fl), some (src, b, _)) := (← ReflectliteValue.parts v, ← ReflectliteValue.parts x)
      | unsupported (.noEntry "extern/(internal/reflectlite.Value).Set.zeroValue")
    if fl / ReflectliteValue.flagAddr % 2 == 0 then unsupported (.noEntry "extern/(internal/reflectlite.Value).Set.unaddressable")
    let val ← loadVar src b
    if ← Rtype.directlyAssignable dst src then storeVar dst a val
    else if ← Rtype.implements dst src then
      if (← Rtype.kind src) == 20 then
        match val with
        | .nilIface => unsupported (.noEntry "extern/reflectlite: a nil value of one interface type handed on as a value of another")
        | _ => storeVar dst a val
      else storeVar dst a (.iface src val)
    else panicString ("reflectlite.Set: value of type " ++ (← Rtype.spelt src) ++ " is not assignable to type " ++ (← Rtype.spelt dst))
    pure (.tuple #[])) := rfl
theorem parts41a (a : Addr) (w : World) : (ReflectliteValue.parts (.agg #[.pointer (some ⟨3, 49, none⟩), .pointer (some a), .int .u64 386])).run Tryz.prog w = .ok (some (49, a, 386)) w := by kernel_rfl
theorem parts41 (a : Addr) (w : World) : (ReflectliteValue.parts (.agg #[.pointer (some ⟨3, 49, none⟩), .pointer (some a), .int .u64 130])).run Tryz.prog w = .ok (some (49, a, 130)) w := by kernel_rfl
theorem direct41 (w : World) : (Rtype.directlyAssignable 49 49).run Tryz.prog w = .ok true w := by kernel_rfl
theorem set41 (ta b : Addr) (n : Int) (old : Value) (W : World) (hb : W.cell? b = some (.int .i64 n)) (ht : W.cell? ta = some old) (hf : W.frozen? ta = false) :
    (ReflectliteValue.set #[.agg #[.pointer (some ⟨3, 49, none⟩), .pointer (some ta), .int .u64 386], .agg #[.pointer (some ⟨3, 49, none⟩), .pointer (some b), .int .u64 130]]).run Tryz.prog W
      = .ok (.tuple #[]) (W.setCell ta (.int .i64 n)) := by
  rw [rls]
  simp only [Sem.run_bind, parts41a, parts41, Result.andThen]
  simp [ReflectliteValue.flagAddr, loadVar, isAgg, underlying, Tryz.underlying49, hb, Result.andThen, direct41, storeVar, Value.cells, storeCells, Addr.add]
  rw [run_store Tryz.prog W ta _ _ (by rfl)]
  simp [ht, hf]
theorem noAs57 (v : Value) (xT : TypeId) (w : World) : (Instr.typeAssert (.iface 93 v) xT 161 true).run Tryz.prog w = .ok (.tuple #[.nilIface, .bool false]) w := run_typeAssert_lacksB Tryz.underlying161 (by kernel_rfl) (by kernel_rfl) v xT w
theorem unwraps57 (v : Value) (xT : TypeId) (w : World) : (Instr.typeAssert (.iface 93 v) xT 131 true).run Tryz.prog w = .ok (.tuple #[.iface 93 v, .bool true]) w := run_typeAssert_hasB Tryz.underlying131 (by kernel_rfl) v xT w
theorem unwrap_at (B : Nat) (v : Value) (w : World) (h : w.cell? ⟨B, 2, none⟩ = some v) : Calls Tryz.prog 187 #[.pointer (some ⟨B, 0, none⟩)] w fun ev w' => ev = .returned v ∧ w' = w := by
  go_enter Tryz.func187, Tryz.ntmps187
  go_wp2
  go_ret
  exact ⟨rfl, rfl⟩
theorem method57 (h : Value) (w : World) : (Go.method 318 93 h "Unwrap").run Tryz.prog w = .ok (187, h) w := by kernel_rfl
theorem methodKind (h : Value) (w : World) : (Go.method 318 156 (.agg #[h]) "Kind").run Tryz.prog w = .ok (182, h) w := by kernel_rfl
theorem methodElem (h : Value) (w : World) : (Go.method 318 156 (.agg #[h]) "Elem").run Tryz.prog w = .ok (194, .agg #[h]) w := by kernel_rfl
theorem methodImplements (h : Value) (w : World) : (Go.method 318 156 (.agg #[h]) "Implements").run Tryz.prog w = .ok (195, .agg #[h]) w := by kernel_rfl
theorem methodAssignableTo (h : Value) (w : World) : (Go.method 318 156 (.agg #[h]) "AssignableTo").run Tryz.prog w = .ok (192, .agg #[h]) w := by kernel_rfl
set_option maxHeartbeats 4000000 in
theorem as_hit (B : Nat) (n : Int) (t a : Addr) (old : Value) (w : World) (hc : w.cell? ⟨B, 2, none⟩ = some (.iface 49 (.int .i64 n))) (ha : w.cell? a = some (.pointer (some t))) (ht0 : w.cell? t = some old) (hf0 : w.frozen? t = false) :
    Calls Tryz.prog 94 #[.iface 93 (.pointer (some ⟨B, 0, none⟩)), .iface 89 (.pointer (some t)), .agg #[.pointer (some ⟨3, 89, none⟩), .pointer (some a), .int .u64 150], .iface 156 (.agg #[.pointer (some ⟨3, 49, none⟩)])] w fun ev w' => ev = .returned (.bool true) ∧
      w' = ((w.alloc (.cells #[.pointer (some ⟨3, 89, none⟩), .pointer (some a), .int .u64 150] 120)).alloc (.cells #[.int .i64 n] 49)).setCell t (.int .i64 n) := by
  have h56 := @run_callFunc_extern Tryz.prog 130 _ ReflectliteType.typeOf Tryz.func130 (by kernel_rfl) (by kernel_rfl) (by kernel_rfl) (by kernel_rfl)
  have h90 := @run_callFunc_extern Tryz.prog 192 _ (ReflectliteType.relation "AssignableTo" ReflectliteType.assignableTo) Tryz.func192 (by kernel_rfl) (by kernel_rfl) (by kernel_rfl) (by kernel_rfl)
  have h57 := @run_callFunc_extern Tryz.prog 131 _ (ReflectliteValue.method (ReflectliteValue.valueError "reflectlite.Value.Elem" 0) ReflectliteValue.elem) Tryz.func131 (by kernel_rfl) (by kernel_rfl) (by kernel_rfl) (by kernel_rfl)
  have h41 := @run_callFunc_extern Tryz.prog 91 _ (fun args => ReflectliteValue.unpack (args.getD 0 (.tuple #[]))) Tryz.func91 (by kernel_rfl) (by kernel_rfl) (by kernel_rfl) (by kernel_rfl)
  have h58 := @run_callFunc_extern Tryz.prog 132 _ ReflectliteValue.set Tryz.func132 (by kernel_rfl) (by kernel_rfl) (by kernel_rfl) (by kernel_rfl)
  have tO := typeOf57
  have tO2 := typeOf41
  have a57 := assignable57
  have a41 := assignable41
  have v41 := V41
  have n57 := noAs57
  have u57 := unwraps57
  go_enter Tryz.func94, Tryz.ntmps94
  have mU := method57
  have hcl : ∀ {p : Addr} {v : Value}, w.cell? p = some v → p.block < w.heap.size := fun {p v} h => by
    rcases Nat.lt_or_ge p.block w.heap.size with h1 | h1
    · exact h1
    · simp [World.cell?, Array.getElem?_eq_none h1] at h
  have hal := hcl ha
  have htl := hcl ht0
  have hbl : B < w.heap.size := hcl hc
  have hc2 : (w.alloc (.cells #[.pointer (some ⟨3, 89, none⟩), .pointer (some a), .int .u64 150] 120)).cell? ⟨B, 2, none⟩ = some (.iface 49 (.int .i64 n)) := by rw [World.cell?_alloc_lt _ _ ⟨B, 2, none⟩ hbl]; exact hc
  have el := elemV61 a t (w.alloc (.cells #[.pointer (some ⟨3, 89, none⟩), .pointer (some a), .int .u64 150] 120)) (by rw [World.cell?_alloc_lt _ _ a hal]; exact ha)
  have st := set41 t ⟨w.heap.size + 1, 0, none⟩ n old ((w.alloc (.cells #[.pointer (some ⟨3, 89, none⟩), .pointer (some a), .int .u64 150] 120)).alloc (.cells #[.int .i64 n] 49)) (by rw [World.cell?_alloc_at _ _ _ _ (by simp)]; rfl)
    (by rw [World.cell?_alloc_lt _ _ t (by simp; omega), World.cell?_alloc_lt _ _ t htl]; exact ht0)
    (by rw [World.frozen?_alloc_old _ _ t (by simp; omega), World.frozen?_alloc_old _ _ t (Nat.ne_of_lt htl)]; exact hf0)
  have mA := methodAssignableTo
  go_wp2
  refine wp_loop_rounds 2 ?_
  rw [rounds_succ]
  go_wp2_with (go_at_call 187; refine (unwrap_at B _ _ hc2).mono ?_; rintro e w' ⟨rfl, rfl⟩)
  rw [rounds_succ]
  go_wp2
  go_ret
  exact ⟨rfl, rfl⟩
set_option maxHeartbeats 4000000 in
theorem As_hit (B : Nat) (n : Int) (t : Addr) (old : Value) (w : World) (hg : w.cell? ⟨1, 0, none⟩ = some (.iface 156 (.agg #[.pointer (some ⟨3, 33, none⟩)]))) (hc : w.cell? ⟨B, 2, none⟩ = some (.iface 49 (.int .i64 n))) (ht0 : w.cell? t = some old) (hf0 : w.frozen? t = false) :
    Calls Tryz.prog 58 #[.iface 93 (.pointer (some ⟨B, 0, none⟩)), .iface 89 (.pointer (some t))] w fun ev w' => ev = .returned (.bool true) ∧
      w' = ((((w.alloc (.cells #[.pointer (some t)] 89)).alloc (.cells #[.pointer (some ⟨3, 89, none⟩), .pointer (some ⟨w.heap.size, 0, none⟩), .int .u64 150] 120)).alloc (.cells #[.pointer (some ⟨3, 89, none⟩), .pointer (some ⟨w.heap.size, 0, none⟩), .int .u64 150] 120)).alloc (.cells #[.int .i64 n] 49)).setCell t (.int .i64 n) := by
  have h41 := @run_callFunc_extern Tryz.prog 91 _ (fun args => ReflectliteValue.unpack (args.getD 0 (.tuple #[]))) Tryz.func91 (by kernel_rfl) (by kernel_rfl) (by kernel_rfl) (by kernel_rfl)
  have h42 := @run_callFunc_extern Tryz.prog 92 _ (ReflectliteValue.methodAny (ReflectliteValue.valueError "reflectlite.Value.Type" 0) (fun t _ _ _ => ReflectliteType.toType t)) Tryz.func92 (by kernel_rfl) (by kernel_rfl) (by kernel_rfl) (by kernel_rfl)
  have h43 := @run_callFunc_extern Tryz.prog 93 _ (ReflectliteValue.method (ReflectliteValue.valueError "reflectlite.Value.IsNil" 0) ReflectliteValue.isNil) Tryz.func93 (by kernel_rfl) (by kernel_rfl) (by kernel_rfl) (by kernel_rfl)
  have h79 := @run_callFunc_extern Tryz.prog 182 _ (ReflectliteType.abiMethod fun t => do pure (.int .u8 (← Rtype.kind t))) Tryz.func182 (by kernel_rfl) (by kernel_rfl) (by kernel_rfl) (by kernel_rfl)
  have h92 := @run_callFunc_extern Tryz.prog 194 _ (ReflectliteType.method ReflectliteType.elem) Tryz.func194 (by kernel_rfl) (by kernel_rfl) (by kernel_rfl) (by kernel_rfl)
  have h93 := @run_callFunc_extern Tryz.prog 195 _ (ReflectliteType.relation "Implements" ReflectliteType.implements_) Tryz.func195 (by kernel_rfl) (by kernel_rfl) (by kernel_rfl) (by kernel_rfl)
  have f6 := V61
  have f7 := T61
  have mK := methodKind
  have mE := methodElem
  have mI := methodImplements
  have k61 := kind61
  have k41 := kind41
  have e61 := elem61
  have i41 := implements41
  have hcl : ∀ {p : Addr} {v : Value}, w.cell? p = some v → p.block < w.heap.size := fun {p v} h => by
    rcases Nat.lt_or_ge p.block w.heap.size with h1 | h1
    · exact h1
    · simp [World.cell?, Array.getElem?_eq_none h1] at h
  have hgl : 1 < w.heap.size := hcl hg
  have htl := hcl ht0
  have hbl : B < w.heap.size := hcl hc
  have n8 := isNil61 ⟨w.heap.size, 0, none⟩ t ((w.alloc (.cells #[.pointer (some t)] 89)).alloc (.cells #[.pointer (some ⟨3, 89, none⟩), .pointer (some ⟨w.heap.size, 0, none⟩), .int .u64 150] 120)) (by simp)
  have up : ∀ {p : Addr} {v : Value}, w.cell? p = some v → ((w.alloc (.cells #[.pointer (some t)] 89)).alloc (.cells #[.pointer (some ⟨3, 89, none⟩), .pointer (some ⟨w.heap.size, 0, none⟩), .int .u64 150] 120)).cell? p = some v := fun {p v} h => by
    have := hcl h
    rw [World.cell?_alloc_lt _ _ p (by simp; omega), World.cell?_alloc_lt _ _ p this]; exact h
  have hg2 := up hg
  have hc2 := up hc
  have ht2 := up ht0
  have hf2 : ((w.alloc (.cells #[.pointer (some t)] 89)).alloc (.cells #[.pointer (some ⟨3, 89, none⟩), .pointer (some ⟨w.heap.size, 0, none⟩), .int .u64 150] 120)).frozen? t = false := by
    rw [World.frozen?_alloc_old _ _ t (by simp; omega), World.frozen?_alloc_old _ _ t (Nat.ne_of_lt htl)]; exact hf0
  have ha2 : ((w.alloc (.cells #[.pointer (some t)] 89)).alloc (.cells #[.pointer (some ⟨3, 89, none⟩), .pointer (some ⟨w.heap.size, 0, none⟩), .int .u64 150] 120)).cell? ⟨w.heap.size, 0, none⟩ = some (.pointer (some t)) := by simp
  go_enter Tryz.func58, Tryz.ntmps58
  go_wp2_with (go_at_call 94; refine (as_hit B n t ⟨w.heap.size, 0, none⟩ old _ hc2 ha2 ht2 hf2).mono ?_; rintro e w' ⟨rfl, rfl⟩)
  go_ret
  exact ⟨rfl, rfl⟩
theorem Kind_nil (w : World) : Calls Tryz.prog 25 #[.nilIface] w fun ev w' => ev = .returned (.int .i64 0) ∧ w' = w := by
  go_enter Tryz.func25, Tryz.ntmps25
  go_wp2
  go_ret
  exact ⟨rfl, rfl⟩
set_option maxHeartbeats 2000000 in
theorem Kind_hit (B : Nat) (n : Int) (w : World) (hg : w.cell? ⟨1, 0, none⟩ = some (.iface 156 (.agg #[.pointer (some ⟨3, 33, none⟩)]))) (hc : w.cell? ⟨B, 2, none⟩ = some (.iface 49 (.int .i64 n))) :
    Calls Tryz.prog 25 #[.iface 93 (.pointer (some ⟨B, 0, none⟩))] w fun ev w' => ev = .returned (.int .i64 n) ∧ Below w.heap.size w w' := by
  have hcl : ∀ {p : Addr} {v : Value}, w.cell? p = some v → p.block < w.heap.size := fun {p v} h => by
    rcases Nat.lt_or_ge p.block w.heap.size with h1 | h1
    · exact h1
    · simp [World.cell?, Array.getElem?_eq_none h1] at h
  have hgl : 1 < w.heap.size := hcl hg
  have hbl : B < w.heap.size := hcl hc
  have hg2 : (w.alloc (.cells #[.int .i64 0] 49)).cell? ⟨1, 0, none⟩ = some (.iface 156 (.agg #[.pointer (some ⟨3, 33, none⟩)])) := by rw [World.cell?_alloc_lt _ _ ⟨1, 0, none⟩ hgl]; exact hg
  have hc2 : (w.alloc (.cells #[.int .i64 0] 49)).cell? ⟨B, 2, none⟩ = some (.iface 49 (.int .i64 n)) := by rw [World.cell?_alloc_lt _ _ ⟨B, 2, none⟩ hbl]; exact hc
  have ht2 : (w.alloc (.cells #[.int .i64 0] 49)).cell? ⟨w.heap.size, 0, none⟩ = some (.int .i64 0) := by simp
  have hf2 : (w.alloc (.cells #[.int .i64 0] 49)).frozen? ⟨w.heap.size, 0, none⟩ = false := by simp
  go_enter Tryz.func25, Tryz.ntmps25
  go_wp2_with (go_at_call 58; refine (As_hit B n ⟨w.heap.size, 0, none⟩ (.int .i64 0) _ hg2 hc2 ht2 hf2).mono ?_; rintro e w' ⟨rfl, rfl⟩)
  go_ret
  refine ⟨rfl, ?_⟩
  refine ((((((Below.refl w.heap.size w).alloc (Nat.le_refl _) _).alloc ?_ _).alloc ?_ _).alloc ?_ _).alloc ?_ _) <;> simp <;> omega
theorem New_ok (n : Int) (at_ : Int) (what : ByteArray) (w : World) (hn : ¬ n = 0) : Calls Tryz.prog 127 #[.int .i64 n, .int .i64 at_, .string what] w fun ev w' => ev = .returned (.iface 93 (.pointer (some ⟨w.heap.size, 0, none⟩))) ∧ w' = w.alloc (.cells #[.int .i64 at_, .string what, .iface 49 (.int .i64 n)] 95) := by
  go_enter Tryz.func127, Tryz.ntmps127
  go_wp2
  go_ret
  exact ⟨rfl, rfl⟩
structure FaultAt (w : World) (x : Nat × Int × ByteArray) (inner : Value) : Prop where
  at_ : w.cell? ⟨x.1, 0, none⟩ = some (.int .i64 x.2.1)
  what : w.cell? ⟨x.1, 1, none⟩ = some (.string x.2.2)
  inner : w.cell? ⟨x.1, 2, none⟩ = some inner
inductive Err (w : World) : Value → List (Nat × Int × ByteArray) → Option Int → Prop
  | nil : Err w .nilIface [] none
  | errno (n : Int) : Err w (.iface 49 (.int .i64 n)) [] (some n)
  | fault {x : Nat × Int × ByteArray} {inner : Value} {l : List (Nat × Int × ByteArray)} {k : Option Int} : FaultAt w x inner → Err w inner l k → Err w (.iface 93 (.pointer (some ⟨x.1, 0, none⟩))) (x :: l) k
def KeepsF (L : List (Nat × Int × ByteArray)) (A C : World) : Prop := ∀ x ∈ L, ∀ j v, A.cell? ⟨x.1, j, none⟩ = some v → C.cell? ⟨x.1, j, none⟩ = some v
theorem KeepsF.refl (L : List (Nat × Int × ByteArray)) (A : World) : KeepsF L A A := fun _ _ _ _ h => h
theorem KeepsF.trans {L : List (Nat × Int × ByteArray)} {A C D : World} (h : KeepsF L A C) (k : KeepsF L C D) : KeepsF L A D := fun x hx j v hv => k x hx j v (h x hx j v hv)
theorem keepsF_b {L : List (Nat × Int × ByteArray)} {w : World} (W : World) (l : Nat) (o o' : Obj) (_ : w.heap.size ≤ l) (h : W.heap[l]? = some o) (hc : o.isCells = false) (_ : o.isWalk = false) : KeepsF L W (W.putObj l o') := by
  intro x _ j v hv
  have hne : x.1 ≠ l := by
    rintro e
    unfold World.cell? at hv
    rw [show (⟨x.1, j, none⟩ : Addr).block = l from e, h] at hv
    cases o <;> simp [Obj.isCells] at hc hv
  unfold World.cell? at hv ⊢
  rw [World.putObj_heap_other hne]
  exact hv
theorem KeepsF.below {L : List (Nat × Int × ByteArray)} {A C : World} (h : Below A.heap.size A C) : KeepsF L A C := fun x _ j v hv => by
  have hb : x.1 < A.heap.size := World.block_lt_of_cell? A _ hv
  unfold World.cell? at hv ⊢
  rw [h.block x.1 hb]; exact hv
theorem Err.mono {w w' : World} {v : Value} {L l : List (Nat × Int × ByteArray)} {k : Option Int} (h : Err w v l k) (hk : KeepsF L w w') (hs : ∀ x ∈ l, x ∈ L) : Err w' v l k := by
  induction h with
  | nil => exact .nil
  | errno n => exact .errno n
  | fault hf _ ih => exact .fault ⟨hk _ (hs _ List.mem_cons_self) _ _ hf.at_, hk _ (hs _ List.mem_cons_self) _ _ hf.what, hk _ (hs _ List.mem_cons_self) _ _ hf.inner⟩ (ih fun x hx => hs x (List.mem_cons_of_mem _ hx))
theorem Err.keeps {w w' : World} {v : Value} {l : List (Nat × Int × ByteArray)} {k : Option Int} (h : Err w v l k) (hk : Below w.heap.size w w') : Err w' v l k := h.mono (L := l) (KeepsF.below hk) fun _ hx => hx
theorem FaultAt.uniq {w : World} {x y : Nat × Int × ByteArray} {v v' : Value} (h : FaultAt w x v) (h' : FaultAt w y v') (e : x.1 = y.1) : x = y ∧ v = v' := by
  have h1 := h.at_; have h2 := h.what; have h3 := h.inner
  rw [e] at h1 h2 h3
  obtain ⟨x1, x2, x3⟩ := x
  obtain ⟨y1, y2, y3⟩ := y
  have e1 := Option.some.inj (h1.symm.trans h'.at_)
  have e2 := Option.some.inj (h2.symm.trans h'.what)
  have e3 := Option.some.inj (h3.symm.trans h'.inner)
  simp only [Value.int.injEq, Value.string.injEq] at e1 e2
  dsimp only at e
  obtain ⟨_, rfl⟩ := e1
  subst e e2
  exact ⟨rfl, e3⟩
theorem Err.uniq {w : World} {v : Value} {l l' : List (Nat × Int × ByteArray)} {k k' : Option Int} (h : Err w v l k) (h' : Err w v l' k') : l = l' ∧ k = k' := by
  induction h generalizing l' k' with
  | nil => cases h'; exact ⟨rfl, rfl⟩
  | errno n => cases h'; exact ⟨rfl, rfl⟩
  | @fault x inner l k hf _ ih =>
    generalize hv : Value.iface 93 (.pointer (some ⟨x.1, 0, none⟩)) = v at h'
    cases h' with
    | nil => cases hv
    | errno n => cases hv
    | @fault y inner' l2 k2 hf' h2 =>
      have e : x.1 = y.1 := by injection hv with _ e; injection e with e; injection e with e; injection e
      obtain ⟨rfl, rfl⟩ := hf.uniq hf' e
      obtain ⟨rfl, rfl⟩ := ih h2
      exact ⟨rfl, rfl⟩
open Classical in
noncomputable def errLen (w : World) (v : Value) : Nat := if h : ∃ l : List (Nat × Int × ByteArray), ∃ k, Err w v l k then (Classical.choose h).length else 0
theorem errLen_eq {w : World} {v : Value} {l : List (Nat × Int × ByteArray)} {k : Option Int} (h : Err w v l k) : errLen w v = l.length := by
  have hx : ∃ l : List (Nat × Int × ByteArray), ∃ k, Err w v l k := ⟨l, k, h⟩
  unfold errLen
  rw [dif_pos hx]
  obtain ⟨k', h'⟩ := Classical.choose_spec hx
  rw [(h.uniq h').1]
theorem as57_57 (v : Value) (w : World) : (Instr.typeAssert (.iface 93 v) 33 93 true).run Tryz.prog w = .ok (.tuple #[v, .bool true]) w := by kernel_rfl
theorem as41_57 (v : Value) (w : World) : (Instr.typeAssert (.iface 49 v) 33 93 true).run Tryz.prog w = .ok (.tuple #[.pointer none, .bool false]) w := by kernel_rfl
theorem as57_69 (v : Value) (xT : TypeId) (w : World) : (Instr.typeAssert (.iface 93 v) xT 132 true).run Tryz.prog w = .ok (.tuple #[.iface 93 v, .bool true]) w := run_typeAssert_hasB Tryz.underlying132 (by kernel_rfl) v xT w
theorem as41_69 (v : Value) (xT : TypeId) (w : World) : (Instr.typeAssert (.iface 49 v) xT 132 true).run Tryz.prog w = .ok (.tuple #[.nilIface, .bool false]) w := run_typeAssert_lacksB Tryz.underlying132 (by kernel_rfl) (by kernel_rfl) v xT w
theorem faults_in (F : Fence) (n : Nat) (h5 : F.fn 59) (hro : F.round = none) (e : Value) (he : e = .nilIface ∨ ∃ t v, e = .iface t v) (w : World) :
    CallsIn F n Tryz.prog 59 #[e] w fun ev w' => ev = .returned (.func (.func 95) #[] #[.pointer (some ⟨w.heap.size, 0, none⟩)]) ∧ w' = w.alloc (.cells #[e] 33) := by
  refine callsIn_of_wp Tryz.func59 rfl h5 ?_ hro
  simp only [Tryz.ntmps59, List.size_toArray, List.length_cons, List.length_nil, Nat.reduceAdd, Nat.reduceSub, Array.replicate_succ, Array.replicate_zero, List.push_toArray, List.append_toArray, List.nil_append, List.cons_append]
  rcases he with rfl | ⟨t, v, rfl⟩ <;> gi_wp2 <;> go_ret <;> exact ⟨rfl, rfl⟩
theorem Err.isIface {w : World} {v : Value} {l : List (Nat × Int × ByteArray)} {k : Option Int} (h : Err w v l k) : v = .nilIface ∨ ∃ t u, v = .iface t u := by
  cases h with
  | nil => exact .inl rfl
  | errno n => exact .inr ⟨_, _, rfl⟩
  | fault _ _ => exact .inr ⟨_, _, rfl⟩
set_option maxRecDepth 100000 in
set_option maxHeartbeats 2000000 in
theorem faults1_in (n : Nat) (hn : 1 ≤ n) (l B : Nat) (e : Value) (L : List (Nat × Int × ByteArray)) (k : Option Int) (J Jx : List (Nat × Int × ByteArray) → World → Prop)
    (hY : ∀ pre x W, J pre W → pre ++ [x] <+: L → YieldAt Fence.wide (n - 1) Tryz.prog l #[.pointer (some ⟨x.1, 0, none⟩)] W fun e W' =>
      (e = .returned (.bool true) ∧ J (pre ++ [x]) W' ∧ KeepsF L W W') ∨ (e = .returned (.bool false) ∧ Jx (pre ++ [x]) W'))
    (W : World) (hB : W.cell? ⟨B, 0, none⟩ = some e) (hE : Err W e L k) (h0 : J [] W) :
    CallsIn Fence.wide n Tryz.prog 95 #[.func (.yield l) #[] #[], .pointer (some ⟨B, 0, none⟩)] W fun ev W' => (∃ v, ev = .returned v) ∧
      ((∃ ys, ys = L ∧ J ys W') ∨ (∃ pre, pre <+: L ∧ Jx pre W')) := by
  have u1 := as57_57
  have u2 := as41_57
  have u3 := as57_69
  have u4 := as41_69
  have mU := method57
  refine callsIn_of_wp Tryz.func95 rfl trivial ?_ rfl
  simp only [Tryz.ntmps95, List.size_toArray, List.length_cons, List.length_nil, Nat.reduceAdd, Nat.reduceSub, Array.replicate_succ, Array.replicate_zero, List.push_toArray, List.append_toArray, List.nil_append, List.cons_append]
  have HE := Lib.hid hE
  clear hE
  gi_wp2
  gi_loopw [3] (fun v wr => ∃ (pre rest : List (Nat × Int × ByteArray)), Hid (L = pre ++ rest) ∧ Hid (Err wr v rest k) ∧ J pre wr) (fun v wr => errLen wr v)
  case atStart => exact ⟨[], L, rfl, HE, h0⟩
  case round =>
    obtain ⟨pre, rest, hx, hr, hJs⟩ := hrel
    have hr' := hr.out
    cases hr' with
    | nil =>
      have HX : Hid (L = pre) := by have := hx.out; rwa [List.append_nil] at this
      clear hr hx
      gi_wp2
      go_end0
      exact ⟨⟨_, rfl⟩, .inl ⟨_, HX.out.symm, hJs⟩⟩
    | errno m =>
      have HX : Hid (L = pre) := by have := hx.out; rwa [List.append_nil] at this
      clear hr hx
      gi_wp2
      refine ⟨fun _ h => (by cases h), ?_⟩
      gi_wp2
      refine bodyPost_ret (results_none rfl _ _ _) rfl ?_
      exact ⟨⟨_, rfl⟩, .inl ⟨_, HX.out.symm, hJs⟩⟩
    | @fault x inner l2 k2 hf he =>
      have HX : Hid (L = pre ++ x :: l2) := hx
      have hlen : pre ++ [x] <+: L := ⟨l2, by rw [HX.out]; simp⟩
      obtain ⟨fn, tmps, assign, body, hy, hR⟩ := hY pre x wr hJs hlen
      have HF := Lib.hid hf
      have HE2 := Lib.hid he
      clear hr hx hlen hf he
      gi_wp2
      refine hR.mono ?_
      have hxL : x ∈ L := by rw [HX.out]; simp
      rintro e' W3 (⟨rfl, hJ3, hk3⟩ | ⟨rfl, hJx3⟩)
      · have hin := hk3 x hxL 2 _ HF.out.inner
        have HE3 := Lib.hid (HE2.out.mono hk3 fun y hy => by rw [HX.out]; simp [hy])
        have hsz : errLen wr (.iface 93 (.pointer (some ⟨x.1, 0, none⟩))) = l2.length + 1 := errLen_eq (Err.fault HF.out HE2.out)
        have hsz3 := errLen_eq HE3.out
        gi_wp2_with (refine ⟨trivial, ?_⟩; gi_at_call 187; refine (callsIn_wide.2 (unwrap_at x.1 inner _ hin)).mono ?_; rintro e w' ⟨rfl, rfl⟩)
        go_roundw
        case rel => exact ⟨pre ++ [x], l2, (by show L = _; rw [HX.out]; simp), HE3, hJ3⟩
        case measure => rw [hsz, hsz3]; omega
      · gi_wp2
        refine bodyPost_ret (results_none rfl _ _ _) rfl ?_
        exact ⟨⟨_, rfl⟩, .inr ⟨pre ++ [x], ⟨l2, by rw [HX.out]; simp⟩, hJx3⟩⟩
abbrev Fx (L : List (Nat × Int × ByteArray)) := {x : Nat × Int × ByteArray // x ∈ L}
theorem faults_stops (n : Nat) (hn : 1 ≤ n) (B : Nat) (e : Value) (L : List (Nat × Int × ByteArray)) (k : Option Int) (w : World) (hB : B < w.heap.size) (hc : w.cell? ⟨B, 0, none⟩ = some e) (hE : Err w e L k) :
    SeqStopsK Fence.wide n Tryz.prog 95 #[.pointer (some ⟨B, 0, none⟩)] (fun x : Fx L => #[.pointer (some ⟨x.1.1, 0, none⟩)]) (KeepsF L) (fun ys => ys.map (·.1) = L) (fun pre => pre.map (·.1) <+: L) L.length w := fun l J Jx W hW _ _ hY h0 => by
  refine (faults1_in n hn l B e L k (fun pre W => ∃ p : List (Fx L), p.map (·.1) = pre ∧ J p W) (fun pre W => ∃ p : List (Fx L), p.map (·.1) = pre ∧ Jx p W) ?_ W ((hW.cell (p := ⟨B, 0, none⟩) hB).trans hc) (hE.keeps hW) ⟨[], rfl, h0⟩).mono ?_
  · rintro pre x W ⟨p, rfl, hj⟩ hp
    have hx : x ∈ L := hp.subset (by simp)
    have hl : p.length < L.length := by
      have := hp.length_le
      simp only [List.length_append, List.length_map, List.length_cons, List.length_nil] at this
      omega
    obtain ⟨fn, tmps, assign, body, hy, hR⟩ := hY p ⟨x, hx⟩ W hj hl
    refine ⟨fn, tmps, assign, body, hy, hR.mono ?_⟩
    rintro e W' (⟨he, hj', hk⟩ | ⟨he, hj'⟩)
    · exact .inl ⟨he, ⟨p ++ [⟨x, hx⟩], by simp, hj'⟩, hk⟩
    · exact .inr ⟨he, p ++ [⟨x, hx⟩], by simp, hj'⟩
  · rintro e W' ⟨he, ⟨ys, rfl, p, hp, hj⟩ | ⟨pre, hpre, p, rfl, hj⟩⟩
    · exact ⟨he, .inl ⟨p, hp, hj⟩⟩
    · exact ⟨he, .inr ⟨p, hpre, hj⟩⟩
def placeOf : List (Nat × Int × ByteArray) → Int
  | [] => -1
  | x :: _ => x.2.1
theorem placeOf_prefix {p L : List (Nat × Int × ByteArray)} (h : p <+: L) (hne : p ≠ []) : placeOf p = placeOf L := by
  obtain ⟨t, rfl⟩ := h
  cases p with
  | nil => exact absurd rfl hne
  | cons x p => rfl
theorem Err.mem {w : World} {v : Value} {l : List (Nat × Int × ByteArray)} {k : Option Int} (h : Err w v l k) {x : Nat × Int × ByteArray} (hx : x ∈ l) : ∃ inner, FaultAt w x inner := by
  induction h with
  | nil => cases hx
  | errno n => cases hx
  | fault hf _ ih =>
    rcases List.mem_cons.1 hx with rfl | hx
    · exact ⟨_, hf⟩
    · exact ih hx
theorem FaultAt.below {w w' : World} {x : Nat × Int × ByteArray} {v : Value} (h : FaultAt w x v) (hb : Below w.heap.size w w') : FaultAt w' x v :=
  have hk : KeepsF [x] w w' := KeepsF.below hb
  ⟨hk x List.mem_cons_self _ _ h.at_, hk x List.mem_cons_self _ _ h.what, hk x List.mem_cons_self _ _ h.inner⟩
theorem FaultAt.lt {w : World} {x : Nat × Int × ByteArray} {v : Value} (h : FaultAt w x v) : x.1 < w.heap.size := World.block_lt_of_cell? w _ h.at_
set_option maxRecDepth 100000 in
set_option maxHeartbeats 4000000 in
theorem Place_calls (e : Value) (L : List (Nat × Int × ByteArray)) (k : Option Int) (w : World) (hE : Err w e L k) :
    Calls Tryz.prog 26 #[e] w fun ev w' => ev = .returned (.int .i64 (placeOf L)) ∧ Below w.heap.size w w' := by
  refine (callsIn_wide (n := 3)).1 ?_
  refine callsIn_of_wp_marks Tryz.func26 rfl trivial ?_ rfl
  simp only [Tryz.ntmps26, List.size_toArray, List.length_cons, List.length_nil, Nat.reduceAdd, Nat.reduceSub, Array.replicate_succ, Array.replicate_zero, List.push_toArray, List.append_toArray, List.nil_append, List.cons_append]
  have HE := Lib.hid hE
  clear hE
  have b0 := Boxed.new w 3 (.int .i64 0)
  have B0 := Lib.hid b0
  clear b0
  gi_wp2_with (refine ⟨trivial, ?_⟩; gi_at_call 59; refine (faults_in Fence.wide (3 - 1) trivial rfl _ HE.out.isIface _).mono ?_; rintro e_ w' ⟨rfl, rfl⟩)
  have bN := Boxed.new (w.alloc (.cells #[.int .i64 0] 3)) 33 e
  rw [World.size_alloc] at bN
  have hB0 : Below w.heap.size w ((w.alloc (.cells #[.int .i64 0] 3)).alloc (.cells #[e] 33)) := ((Below.refl _ w).alloc (Nat.le_refl _) _).alloc (by simp) _
  refine wpIn_rangeFunc_ownG (F := Fence.wide) rfl (by decide) (gf := 95) (lb := #[.pointer (some ⟨w.heap.size + 1, 0, none⟩)]) rfl trivial (enters_of Tryz.func95 (by kernel_rfl) rfl)
    (faults_stops (3 - 1) (by decide) (w.heap.size + 1) e L k _ (by simp) bN.cell (HE.out.keeps hB0)) KeepsF.trans keepsF_b (Below.refl _ _) (fun _ => rfl)
    (fun (pre : List (Fx L)) W => Boxed W w.heap.size 3 (.int .i64 0) ∧ Below w.heap.size w W ∧ Hid (pre = []))
    (fun c (pre : List (Fx L)) W => Boxed W w.heap.size 3 (.int .i64 (placeOf (pre.map (·.1)))) ∧ Below w.heap.size w W ∧ Hid (c = .ret ∧ pre ≠ []))
    (OwnFrom.and (Own.from (boxed_own _ _ _) _) (OwnFrom.and (ownFrom_below (Nat.le_refl _) (by simp; omega)) (ownFrom_pure _ _)))
    (fun c => OwnFrom.and (Own.from (boxed_own _ _ (fun (pre : List (Fx L)) => Value.int .i64 (placeOf (pre.map (·.1))))) _) (OwnFrom.and (ownFrom_below (Nat.le_refl _) (by simp; omega)) (ownFrom_pure _ _)))
    ⟨B0.out.alloc _, hB0, rfl⟩
    (fun (x : Fx L) => { tmps := #[e, undef, .pointer (some ⟨w.heap.size, 0, none⟩), .pointer (some ⟨x.1.1, 0, none⟩), e, .func (.func 95) #[] #[.pointer (some ⟨w.heap.size + 1, 0, none⟩)], .pointer (some ⟨x.1.1, 0, none⟩), undef, undef, undef, undef], defers := [] }) ?assign ?body ?done ?stop
  case assign =>
    intro l x V K hK
    gi_wp2
    exact hK
  case body =>
    rintro l pre x V ⟨hb, hbel, hpre⟩ hlen
    obtain ⟨inner, hf⟩ := HE.out.mem x.2
    have hf2 := hf.below hbel
    have ha := hf2.at_
    have hcr := hb.cell
    have hcf := hb.frozen
    have hlt := hf.lt
    have HB := Lib.hid hb
    have HBel := Lib.hid hbel
    have HFx := Lib.hid hf2
    clear hf hf2 hb hbel
    gi_wp2
    refine ⟨(KeepsOthers.setCell _ _ _).from _, ?_, HBel.out.setCell (p := ⟨w.heap.size, 0, none⟩) (Nat.le_refl _) _, rfl, by simp⟩
    obtain rfl := hpre.out
    exact HB.out.set _
  case done =>
    rintro D ys V hD hys ⟨hb, hbel, hpre⟩ hK
    obtain rfl := hpre.out
    obtain rfl : L = [] := hys.symm
    have HK := Lib.hid hK
    have hcr := hb.cell
    have hcf := hb.frozen
    gi_wp2
    have hDw : w.heap.size + 2 ≤ D := by simpa using hD
    have hK2 : (V.setCell ⟨w.heap.size, 0, none⟩ (.int .i64 (-1))).heap[D]? = some (.deferred (some [])) := (Below.heap_setCell V ⟨w.heap.size, 0, none⟩ _ D (by simp; omega)).trans HK.out
    refine ⟨by simp, .inl ⟨_, _, rfl, run_takeDeferred hK2, ?_⟩⟩
    have hbx : Boxed ((V.setCell ⟨w.heap.size, 0, none⟩ (.int .i64 (-1))).putObj D (.deferred none)) w.heap.size 3 (.int .i64 (-1)) := (World.putObj_heap_other (by omega)).trans (hb.set _)
    have hcell := hbx.cell
    exact ⟨.int .i64 (-1), by simp [results, Tryz.f26, go_sem, hcell], rfl, (hbel.setCell (p := ⟨w.heap.size, 0, none⟩) (Nat.le_refl _) _).trans (belowK_b (w := w) (Nat.le_refl _) _ D _ _ (by omega) hK2 rfl rfl)⟩
  case stop =>
    rintro D c pre V hD hp ⟨hb, hbel, hn⟩ hK
    obtain ⟨rfl, hne⟩ := hn.out
    have hcr := hb.cell
    gi_wp2
    have hDw : w.heap.size + 2 ≤ D := by simpa using hD
    refine ⟨by simp, .inl ⟨_, _, rfl, run_takeDeferred hK, ?_⟩⟩
    have hbx : Boxed (V.putObj D (.deferred none)) w.heap.size 3 (.int .i64 (placeOf (pre.map (·.1)))) := (World.putObj_heap_other (by omega)).trans hb
    have hcell := hbx.cell
    rw [placeOf_prefix hp (by simpa using hne)] at hcell
    exact ⟨.int .i64 (placeOf L), by simp [results, Tryz.f26, go_sem, hcell], rfl, hbel.trans (belowK_b (w := w) (Nat.le_refl _) _ D _ _ (by omega) hK rfl rfl)⟩
abbrev errGV : Value := .iface 156 (.agg #[.pointer (some ⟨3, 33, none⟩)])
end Go.Proofs.YtejnfbfikadpdaaGreatDoor.P
