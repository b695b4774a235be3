/- errors.Is and fault.Has at a chain of any depth; fault.Total. Condition: sums of places stay in their kind. -/
import Derived.Test.YtlngefnimnjkkaaDoorHandAs
namespace Go.Proofs.YtlngefnimnjkkaaDoor.P
open Go.RowKit Go.Extern.Stop Go.Stop Go.Extern Go.Shelf Go.Proofs.YtlngefnimnjkkaaDoorW.PrintWords
attribute [local go_sem] Oper.semAt_some
set_option linter.unusedVariables false
set_option linter.unusedSimpArgs false
theorem noIs57 (v : Value) (xT : TypeId) (w : World) : (Instr.typeAssert (.iface 45 v) xT 91 true).run Tryd.prog w = .ok (.tuple #[.nilIface, .bool false]) w := run_typeAssert_lacksB Tryd.underlying91 (by kernel_rfl) (by kernel_rfl) v xT w
theorem noIsS (v : Value) (xT : TypeId) (w : World) : (Instr.typeAssert (.iface 53 v) xT 91 true).run Tryd.prog w = .ok (.tuple #[.nilIface, .bool false]) w := run_typeAssert_lacksB Tryd.underlying91 (by kernel_rfl) (by kernel_rfl) v xT w
theorem noIs41 (v : Value) (xT : TypeId) (w : World) : (Instr.typeAssert (.iface 24 v) xT 91 true).run Tryd.prog w = .ok (.tuple #[.nilIface, .bool false]) w := run_typeAssert_lacksB Tryd.underlying91 (by kernel_rfl) (by kernel_rfl) v xT w
theorem noUn41 (v : Value) (xT : TypeId) (w : World) : (Instr.typeAssert (.iface 24 v) xT 75 true).run Tryd.prog w = .ok (.tuple #[.nilIface, .bool false]) w := run_typeAssert_lacksB Tryd.underlying75 (by kernel_rfl) (by kernel_rfl) v xT w
theorem noUs41 (v : Value) (xT : TypeId) (w : World) : (Instr.typeAssert (.iface 24 v) xT 88 true).run Tryd.prog w = .ok (.tuple #[.nilIface, .bool false]) w := run_typeAssert_lacksB Tryd.underlying88 (by kernel_rfl) (by kernel_rfl) v xT w
theorem eq57 (v : Value) (n : Int) (w : World) : (binOp .eql 29 (.iface 45 v) (.iface 24 (.int .i64 n))).run Tryd.prog w = .ok (.bool false) w := by kernel_rfl
theorem eqS (v : Value) (n : Int) (w : World) : (binOp .eql 29 (.iface 53 v) (.iface 24 (.int .i64 n))).run Tryd.prog w = .ok (.bool false) w := by kernel_rfl
theorem eq41 (m n : Int) (w : World) : (binOp .eql 29 (.iface 24 (.int .i64 m)) (.iface 24 (.int .i64 n))).run Tryd.prog w = .ok (.bool (m == n)) w := by kernel_rfl
theorem eqN (n : Int) (w : World) : (binOp .eql 29 .nilIface (.iface 24 (.int .i64 n))).run Tryd.prog w = .ok (.bool false) w := by kernel_rfl
theorem comparable41 (w : World) : ((ReflectliteType.method fun t => do Rtype.noPackHeld "Comparable" t; (fun a => Value.bool a.comparable) <$> typeInfo t) #[.agg #[.pointer (some ⟨4, 24, none⟩)]]).run Tryd.prog w = .ok (.bool true) w := by kernel_rfl
theorem methodComparable (h : Value) (w : World) : (Go.method 239 81 (.agg #[h]) "Comparable").run Tryd.prog w = .ok (75, .agg #[h]) w := by kernel_rfl
/-- Is it of the kind? -/
def E.has (x : E) (kd : Int) : Bool := x.kind == some kd
set_option maxRecDepth 100000 in
set_option maxHeartbeats 4000000 in
theorem is_chain (x : E) (e : Value) (kd : Int) (w : World) (hx : E.is w x e) (hne : x ≠ .nil) :
    Calls Tryd.prog 34 #[e, .iface 24 (.int .i64 kd), .bool true] w fun ev w' => ev = .returned (.bool (x.has kd)) ∧ Below w.heap.size w w' := by
  have n57 := noIs57
  have nS := noIsS
  have n41 := noIs41
  have u41 := noUn41
  have us41 := noUs41
  have u57 := unwraps57
  have uS := unwrapsS
  have mU := method57
  have mS := methodS
  have q57 := eq57
  have qS := eqS
  have q41 := eq41
  obtain ⟨T0, u0, rfl⟩ := E.iface hx hne
  have HX := Lib.hid hx
  have HNE := Lib.hid hne
  clear hx hne
  go_enter Tryd.func34, Tryd.ntmps34
  go_wp2
  go_loopw [0] (fun v wr => ∃ y : E, Hid (E.is wr y v) ∧ Hid (y ≠ .nil) ∧ Hid (y.kind = x.kind) ∧ Hid (Below w.heap.size w wr)) (fun v wr => eDepth wr v)
  case atStart => exact ⟨x, HX, HNE, rfl, Lib.hid (Below.refl _ _)⟩
  case round =>
    obtain ⟨y, hy, hyn, hyk, hyb⟩ := hrel
    cases y with
    | nil => exact absurd rfl hyn.out
    | errno m =>
      obtain rfl := hy.out
      have HK : Hid (x.kind = some m) := Lib.hid hyk.out.symm
      clear hy hyn hyk
      by_cases hm : m = kd
      · have c0 : (m == kd) = true := beq_iff_eq.2 hm
        have HM := Lib.hid hm
        clear hm
        go_wp2
        go_ret
        exact ⟨by unfold E.has; rw [HK.out, HM.out]; simp, hyb.out⟩
      · have c0 : (m == kd) = false := beq_eq_false_iff_ne.2 hm
        have HM := Lib.hid hm
        clear hm
        go_wp2
        go_ret
        exact ⟨by unfold E.has; rw [HK.out]; simp [HM.out], hyb.out⟩
    | strange i =>
      have hsz := eDepth_eq hy.out
      obtain ⟨u, rfl, hi⟩ := hy.out
      have HI := Lib.hid hi
      have HSZ := Lib.hid hsz
      have HK : Hid (i.kind = x.kind) := Lib.hid hyk.out
      clear hy hyn hyk hi hsz
      have hba : Below wr.heap.size wr (wr.alloc (.cells #[u] 53)) := (Below.refl wr.heap.size wr).alloc (Nat.le_refl _) _
      have HI2 := Lib.hid (E.is_below HI.out hba)
      have hyb2 := Lib.hid (below_then hyb.out hyb.out.size hba)
      clear hba
      by_cases hn : i = .nil
      · subst hn
        obtain rfl := HI.out
        go_wp2_with (go_at_call 69; refine (unwrap_strange _ _).mono ?_; rintro e w' ⟨rfl, rfl⟩)
        go_ret
        exact ⟨by unfold E.has; rw [← HK.out]; rfl, hyb2.out⟩
      · obtain ⟨T1, u1, rfl⟩ := E.iface HI.out hn
        have HN := Lib.hid hn
        clear hn
        go_wp2_with (go_at_call 69; refine (unwrap_strange _ _).mono ?_; rintro e w' ⟨rfl, rfl⟩)
        go_roundw
        case rel => exact ⟨i, HI2, HN, HK, hyb2⟩
        case measure => rw [HSZ.out, eDepth_eq HI2.out]; exact Nat.lt_succ_self _
    | fault xB xa xs i =>
      have hsz := eDepth_eq hy.out
      obtain ⟨rfl, inner, hf, hi⟩ := hy.out
      have HI := Lib.hid hi
      have HSZ := Lib.hid hsz
      have hin := hf.inner
      have HK : Hid (i.kind = x.kind) := Lib.hid hyk.out
      clear hy hyn hyk hi hsz hf
      by_cases hn : i = .nil
      · subst hn
        obtain rfl := HI.out
        go_wp2_with (go_at_call 21; refine (unwrap_at xB _ _ hin).mono ?_; rintro e w' ⟨rfl, rfl⟩)
        go_ret
        exact ⟨by unfold E.has; rw [← HK.out]; rfl, hyb.out⟩
      · obtain ⟨T1, u1, rfl⟩ := E.iface HI.out hn
        have HN := Lib.hid hn
        clear hn
        go_wp2_with (go_at_call 21; refine (unwrap_at xB _ _ hin).mono ?_; rintro e w' ⟨rfl, rfl⟩)
        go_roundw
        case rel => exact ⟨i, HI, HN, HK, hyb⟩
        case measure => rw [HSZ.out, eDepth_eq HI.out]; exact Nat.lt_succ_self _
set_option maxHeartbeats 2000000 in
theorem Has_any (x : E) (e : Value) (kd : Int) (w : World) (hx : E.is w x e) :
    Calls Tryd.prog 18 #[e, .int .i64 kd] w fun ev w' => ev = .returned (.bool (x.has kd)) ∧ Below w.heap.size w w' := by
  have h33 := @run_callFunc_extern Tryd.prog 33 _ ReflectliteType.typeOf Tryd.func33 (by kernel_rfl) (by kernel_rfl) (by kernel_rfl) (by kernel_rfl)
  have h75 := @run_callFunc_extern Tryd.prog 75 _ (ReflectliteType.method fun t => do Rtype.noPackHeld "Comparable" t; pure (.bool (← typeInfo t).comparable)) Tryd.func75 (by kernel_rfl) (by kernel_rfl) (by kernel_rfl) (by kernel_rfl)
  have tO := typeOf41
  have cm := comparable41
  have mC := methodComparable
  by_cases hne : x = .nil
  · subst hne
    obtain rfl := hx
    have qN := eqN
    have IS : Calls Tryd.prog 26 #[.nilIface, .iface 24 (.int .i64 kd)] w fun ev w' => ev = .returned (.bool false) ∧ w' = w := by
      go_enter Tryd.func26, Tryd.ntmps26
      go_wp2
      go_ret
      exact ⟨rfl, rfl⟩
    go_enter Tryd.func18, Tryd.ntmps18
    go_wp2_with (go_at_call 26; refine IS.mono ?_; rintro e w' ⟨rfl, rfl⟩)
    go_ret
    exact ⟨rfl, Below.refl _ _⟩
  · have HX := Lib.hid hx
    obtain ⟨T0, u0, rfl⟩ := E.iface hx hne
    have HNE := Lib.hid hne
    clear hx hne
    have IS : Calls Tryd.prog 26 #[.iface T0 u0, .iface 24 (.int .i64 kd)] w fun ev w' => ev = .returned (.bool (x.has kd)) ∧ Below w.heap.size w w' := by
      go_enter Tryd.func26, Tryd.ntmps26
      go_wp2_with (go_at_call 34; refine (is_chain x _ kd _ HX.out HNE.out).mono ?_; rintro e w' ⟨rfl, hb⟩)
      go_ret
      exact ⟨rfl, hb⟩
    go_enter Tryd.func18, Tryd.ntmps18
    go_wp2_with (go_at_call 26; refine IS.mono ?_; rintro e w' ⟨rfl, hb⟩)
    go_ret
    exact ⟨rfl, hb⟩
end Go.Proofs.YtlngefnimnjkkaaDoor.P
