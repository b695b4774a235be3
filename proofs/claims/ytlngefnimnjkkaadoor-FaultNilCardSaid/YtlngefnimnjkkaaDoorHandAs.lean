/- errors.As and fault.Kind at a chain of any depth; fault.Wrap, New. Condition: none but what the variable errors.errorType holds. -/
import Derived.Test.YtlngefnimnjkkaaDoorHandErr
namespace Go.Proofs.YtlngefnimnjkkaaDoor.P
open Go.RowKit Go.Extern.Stop Go.Stop Go.Extern Go.Shelf Go.Proofs.YtlngefnimnjkkaaDoorW.PrintWords
attribute [local go_sem] Oper.semAt_some
set_option linter.unusedVariables false
theorem E.iface {w : World} : ∀ {x : E} {v : Value}, E.is w x v → x ≠ .nil → ∃ t u, v = .iface t u
  | .nil, _, _, h => absurd rfl h
  | .errno _, _, h, _ => ⟨_, _, h⟩
  | .fault _ _ _ _, _, h, _ => ⟨_, _, h.1⟩
  | .strange _, _, ⟨_, h, _⟩, _ => ⟨_, _, h⟩
/-- How errors.as ends: the target's cell is written, or not. -/
def AsPost (x : E) (t : Addr) (w : World) (ev : Ending) (w' : World) : Prop :=
  (∃ n, x.kind = some n ∧ ev = .returned (.bool true) ∧ ∃ w1, Below w.heap.size w w1 ∧ w' = w1.setCell t (.int .i64 n)) ∨ (x.kind = none ∧ ev = .returned (.bool false) ∧ Below w.heap.size w w')
theorem cell_lt {w : World} {p : Addr} {v : Value} (h : w.cell? p = some v) : p.block < w.heap.size := World.block_lt_of_cell? w p h
set_option maxRecDepth 100000 in
set_option maxHeartbeats 4000000 in
theorem as_chain (x : E) (e : Value) (t a : Addr) (old : Value) (w : World) (hx : E.is w x e) (hne : x ≠ .nil) (ha : w.cell? a = some (.pointer (some t))) (ht0 : w.cell? t = some old) (hf0 : w.frozen? t = false) :
    Calls Tryd.prog 31 #[e, .iface 55 (.pointer (some t)), .agg #[.pointer (some ⟨4, 55, none⟩), .pointer (some a), .int .u64 150], .iface 81 (.agg #[.pointer (some ⟨4, 24, none⟩)])] w (AsPost x t w) := by
  have h56 := @run_callFunc_extern Tryd.prog 33 _ ReflectliteType.typeOf Tryd.func33 (by kernel_rfl) (by kernel_rfl) (by kernel_rfl) (by kernel_rfl)
  have h90 := @run_callFunc_extern Tryd.prog 74 _ (ReflectliteType.relation "AssignableTo" ReflectliteType.assignableTo) Tryd.func74 (by kernel_rfl) (by kernel_rfl) (by kernel_rfl) (by kernel_rfl)
  have h57 := @run_callFunc_extern Tryd.prog 36 _ (ReflectliteValue.method (ReflectliteValue.valueError "reflectlite.Value.Elem" 0) ReflectliteValue.elem) Tryd.func36 (by kernel_rfl) (by kernel_rfl) (by kernel_rfl) (by kernel_rfl)
  have h41 := @run_callFunc_extern Tryd.prog 28 _ (fun args => ReflectliteValue.unpack (args.getD 0 (.tuple #[]))) Tryd.func28 (by kernel_rfl) (by kernel_rfl) (by kernel_rfl) (by kernel_rfl)
  have h58 := @run_callFunc_extern Tryd.prog 37 _ ReflectliteValue.set Tryd.func37 (by kernel_rfl) (by kernel_rfl) (by kernel_rfl) (by kernel_rfl)
  have tO := typeOf57
  have tO2 := typeOf41
  have tOS := typeOfS
  have a57 := assignable57
  have a41 := assignable41
  have aS := assignableS
  have v41 := V41
  have n57 := noAs57
  have nS := noAsS
  have u57 := unwraps57
  have uS := unwrapsS
  have mU := method57
  have mS := methodS
  have mA := methodAssignableTo
  obtain ⟨T0, u0, rfl⟩ := E.iface hx hne
  have HX := Lib.hid hx
  have HA := Lib.hid ha
  have HT := Lib.hid ht0
  have HF := Lib.hid hf0
  have HNE := Lib.hid hne
  clear hx ha ht0 hf0 hne
  go_enter Tryd.func31, Tryd.ntmps31
  have hb0 : Below w.heap.size w (w.alloc (.cells #[.pointer (some ⟨4, 55, none⟩), .pointer (some a), .int .u64 150] 64)) := (Below.refl w.heap.size w).alloc (Nat.le_refl _) _
  have HB0 := Lib.hid hb0
  have hbx : (w.alloc (.cells #[.pointer (some ⟨4, 55, none⟩), .pointer (some a), .int .u64 150] 64)).heap[w.heap.size]? = some (.cells #[.pointer (some ⟨4, 55, none⟩), .pointer (some a), .int .u64 150] 64 (0, 0)) := World.alloc_heap_new w _
  have HBX := Lib.hid hbx
  clear hb0 hbx
  go_wp2
  go_loopw [0] (fun v wr => ∃ y : E, Hid (E.is wr y v) ∧ Hid (y ≠ .nil) ∧ Hid (y.kind = x.kind) ∧ Hid (Below w.heap.size w wr) ∧ Hid (wr.heap[w.heap.size]? = some (.cells #[.pointer (some ⟨4, 55, none⟩), .pointer (some a), .int .u64 150] 64 (0, 0)))) (fun v wr => eDepth wr v)
  case atStart => exact ⟨x, Lib.hid (E.is_below HX.out HB0.out), HNE, rfl, HB0, HBX⟩
  case round =>
    obtain ⟨y, hy, hyn, hyk, hyb, hbx⟩ := hrel
    have hl1 : w.heap.size < wr.heap.size := (Array.getElem?_eq_some_iff.1 hbx.out).1
    have hcb0 : wr.cell? ⟨w.heap.size, 0, none⟩ = some (.pointer (some ⟨4, 55, none⟩)) := by unfold World.cell?; rw [hbx.out]; rfl
    have hcb1 : wr.cell? ⟨w.heap.size, 1, none⟩ = some (.pointer (some a)) := by unfold World.cell?; rw [hbx.out]; rfl
    have hcb2 : wr.cell? ⟨w.heap.size, 2, none⟩ = some (.int .u64 150) := by unfold World.cell?; rw [hbx.out]; rfl
    cases y with
    | nil => exact absurd rfl hyn.out
    | errno m =>
      obtain rfl := hy.out
      have HK : Hid (x.kind = some m) := Lib.hid hyk.out.symm
      clear hy hyn hyk
      have el := elemV61 a t wr ((hyb.out.cell (p := a) (cell_lt HA.out)).trans HA.out)
      have st := set41 t ⟨wr.heap.size, 0, none⟩ m old (wr.alloc (.cells #[.int .i64 m] 24)) (by rw [World.cell?_alloc_at _ _ _ _ (by simp)]; rfl)
        (by rw [World.cell?_alloc_lt _ _ t (Nat.lt_of_lt_of_le (cell_lt HT.out) hyb.out.size)]; exact (hyb.out.cell (p := t) (cell_lt HT.out)).trans HT.out)
        (by rw [World.frozen?_alloc_old _ _ t (Nat.ne_of_lt (Nat.lt_of_lt_of_le (cell_lt HT.out) hyb.out.size))]; exact (hyb.out.frozen (p := t) (cell_lt HT.out)).trans HF.out)
      go_wp2
      go_ret
      exact .inl ⟨m, HK.out, rfl, _, (hyb.out.alloc hyb.out.size _), rfl⟩
    | strange i =>
      have hsz := eDepth_eq hy.out
      obtain ⟨u, rfl, hi⟩ := hy.out
      have HI := Lib.hid hi
      have HSZ := Lib.hid hsz
      have HK : Hid (i.kind = x.kind) := Lib.hid hyk.out
      clear hy hyn hyk hi hsz
      have hba : Below wr.heap.size wr (wr.alloc (.cells #[u] 53)) := (Below.refl wr.heap.size wr).alloc (Nat.le_refl _) _
      have HI2 := Lib.hid (E.is_below HI.out hba)
      have hyb2 := Lib.hid (below_then hyb.out hyb.out.size hba)
      have hbx2 : Hid ((wr.alloc (.cells #[u] 53)).heap[w.heap.size]? = some (.cells #[.pointer (some ⟨4, 55, none⟩), .pointer (some a), .int .u64 150] 64 (0, 0))) := Lib.hid ((hba.block _ hl1).trans hbx.out)
      clear hba
      by_cases hn : i = .nil
      · subst hn
        obtain rfl := HI.out
        go_wp2_with (go_at_call 69; refine (unwrap_strange _ _).mono ?_; rintro e w' ⟨rfl, rfl⟩)
        go_ret
        exact .inr ⟨HK.out.symm, rfl, hyb2.out⟩
      · obtain ⟨T1, u1, rfl⟩ := E.iface HI.out hn
        have HN := Lib.hid hn
        clear hn
        go_wp2_with (go_at_call 69; refine (unwrap_strange _ _).mono ?_; rintro e w' ⟨rfl, rfl⟩)
        go_roundw
        case rel => exact ⟨i, HI2, HN, HK, hyb2, hbx2⟩
        case measure => rw [HSZ.out, eDepth_eq HI2.out]; exact Nat.lt_succ_self _
    | fault xB xa xs i =>
      have hsz := eDepth_eq hy.out
      obtain ⟨rfl, inner, hf, hi⟩ := hy.out
      have HI := Lib.hid hi
      have HSZ := Lib.hid hsz
      have hin := hf.inner
      have HK : Hid (i.kind = x.kind) := Lib.hid hyk.out
      clear hy hyn hyk hi hsz hf
      by_cases hn : i = .nil
      · subst hn
        obtain rfl := HI.out
        go_wp2_with (go_at_call 21; refine (unwrap_at xB _ _ hin).mono ?_; rintro e w' ⟨rfl, rfl⟩)
        go_ret
        exact .inr ⟨HK.out.symm, rfl, hyb.out⟩
      · obtain ⟨T1, u1, rfl⟩ := E.iface HI.out hn
        have HN := Lib.hid hn
        clear hn
        go_wp2_with (go_at_call 21; refine (unwrap_at xB _ _ hin).mono ?_; rintro e w' ⟨rfl, rfl⟩)
        go_roundw
        case rel => exact ⟨i, HI, HN, HK, hyb, hbx⟩
        case measure => rw [HSZ.out, eDepth_eq HI.out]; exact Nat.lt_succ_self _
/-- How errors.As ends. -/
def AsPost2 (x : E) (t : Addr) (w : World) (ev : Ending) (w' : World) : Prop :=
  (∃ n, x.kind = some n ∧ ev = .returned (.bool true) ∧ ∃ w1, Below w.heap.size w w1 ∧ w' = w1.setCell t (.int .i64 n)) ∨ (x.kind = none ∧ ev = .returned (.bool false) ∧ Below w.heap.size w w')
set_option maxHeartbeats 4000000 in
theorem As_chain (x : E) (e : Value) (t : Addr) (old : Value) (w : World) (hg : w.cell? ⟨0, 0, none⟩ = some errGV) (hx : E.is w x e) (hne : x ≠ .nil) (ht0 : w.cell? t = some old) (hf0 : w.frozen? t = false) :
    Calls Tryd.prog 24 #[e, .iface 55 (.pointer (some t))] w (AsPost2 x t w) := by
  have h41 := @run_callFunc_extern Tryd.prog 28 _ (fun args => ReflectliteValue.unpack (args.getD 0 (.tuple #[]))) Tryd.func28 (by kernel_rfl) (by kernel_rfl) (by kernel_rfl) (by kernel_rfl)
  have h42 := @run_callFunc_extern Tryd.prog 29 _ (ReflectliteValue.methodAny (ReflectliteValue.valueError "reflectlite.Value.Type" 0) (fun t _ _ _ => ReflectliteType.toType t)) Tryd.func29 (by kernel_rfl) (by kernel_rfl) (by kernel_rfl) (by kernel_rfl)
  have h43 := @run_callFunc_extern Tryd.prog 30 _ (ReflectliteValue.method (ReflectliteValue.valueError "reflectlite.Value.IsNil" 0) ReflectliteValue.isNil) Tryd.func30 (by kernel_rfl) (by kernel_rfl) (by kernel_rfl) (by kernel_rfl)
  have h79 := @run_callFunc_extern Tryd.prog 64 _ (ReflectliteType.abiMethod fun t => do pure (.int .u8 (← Rtype.kind t))) Tryd.func64 (by kernel_rfl) (by kernel_rfl) (by kernel_rfl) (by kernel_rfl)
  have h92 := @run_callFunc_extern Tryd.prog 76 _ (ReflectliteType.method ReflectliteType.elem) Tryd.func76 (by kernel_rfl) (by kernel_rfl) (by kernel_rfl) (by kernel_rfl)
  have h93 := @run_callFunc_extern Tryd.prog 77 _ (ReflectliteType.relation "Implements" ReflectliteType.implements_) Tryd.func77 (by kernel_rfl) (by kernel_rfl) (by kernel_rfl) (by kernel_rfl)
  have f6 := V61
  have f7 := T61
  have mK := methodKind
  have mE := methodElem
  have mI := methodImplements
  have k61 := kind61
  have k41 := kind41
  have e61 := elem61
  have i41 := implements41
  have hgl : 0 < w.heap.size := cell_lt hg
  have htl := cell_lt ht0
  have n8 := isNil61 ⟨w.heap.size, 0, none⟩ t ((w.alloc (.cells #[.pointer (some t)] 55)).alloc (.cells #[.pointer (some ⟨4, 55, none⟩), .pointer (some ⟨w.heap.size, 0, none⟩), .int .u64 150] 64)) (by simp)
  have hbw : Below w.heap.size w ((w.alloc (.cells #[.pointer (some t)] 55)).alloc (.cells #[.pointer (some ⟨4, 55, none⟩), .pointer (some ⟨w.heap.size, 0, none⟩), .int .u64 150] 64)) := ((Below.refl w.heap.size w).alloc (Nat.le_refl _) _).alloc (by simp) _
  have hg2 := (hbw.cell (p := ⟨0, 0, none⟩) hgl).trans hg
  have ht2 := (hbw.cell (p := t) htl).trans ht0
  have hf2 := (hbw.frozen (p := t) htl).trans hf0
  have ha2 : ((w.alloc (.cells #[.pointer (some t)] 55)).alloc (.cells #[.pointer (some ⟨4, 55, none⟩), .pointer (some ⟨w.heap.size, 0, none⟩), .int .u64 150] 64)).cell? ⟨w.heap.size, 0, none⟩ = some (.pointer (some t)) := by simp
  have HX := Lib.hid (E.is_below hx hbw)
  have HBW := Lib.hid hbw
  obtain ⟨T0, u0, rfl⟩ := E.iface hx hne
  clear hx hbw
  go_enter Tryd.func24, Tryd.ntmps24
  go_wp2_with (go_at_call 31; refine (as_chain x _ t ⟨w.heap.size, 0, none⟩ old _ HX.out hne ha2 ht2 hf2).mono ?_; rintro ev w' (⟨n, hk, rfl, w1, hb1, rfl⟩ | ⟨hk, rfl, hb1⟩))
  · go_ret
    exact .inl ⟨n, hk, rfl, w1, HBW.out.trans (hb1.mono (by simp; omega)), rfl⟩
  · go_ret
    exact .inr ⟨hk, rfl, HBW.out.trans (hb1.mono (by simp; omega))⟩
theorem Kind_nil (w : World) : Calls Tryd.prog 13 #[.nilIface] w fun ev w' => ev = .returned (.int .i64 0) ∧ w' = w := by
  go_enter Tryd.func13, Tryd.ntmps13
  go_wp2
  go_ret
  exact ⟨rfl, rfl⟩
/-- What Kind tells. -/
def E.told : E → Int
  | .nil => 0
  | x => x.kind.getD 1
set_option maxHeartbeats 2000000 in
theorem Kind_any (x : E) (e : Value) (w : World) (hg : w.cell? ⟨0, 0, none⟩ = some errGV) (hx : E.is w x e) :
    Calls Tryd.prog 13 #[e] w fun ev w' => ev = .returned (.int .i64 x.told) ∧ Below w.heap.size w w' := by
  by_cases hne : x = .nil
  · subst hne
    obtain rfl := hx
    exact (Kind_nil w).mono fun ev w' ⟨h1, h2⟩ => ⟨h1, by rw [h2]; exact Below.refl _ _⟩
  · have htold : x.told = x.kind.getD 1 := by cases x <;> first | rfl | exact absurd rfl hne
    have hgl : 0 < w.heap.size := cell_lt hg
    have hb0 : Below w.heap.size w (w.alloc (.cells #[.int .i64 0] 24)) := (Below.refl w.heap.size w).alloc (Nat.le_refl _) _
    have hg2 := (hb0.cell (p := ⟨0, 0, none⟩) hgl).trans hg
    have ht2 : (w.alloc (.cells #[.int .i64 0] 24)).cell? ⟨w.heap.size, 0, none⟩ = some (.int .i64 0) := by simp
    have hf2 : (w.alloc (.cells #[.int .i64 0] 24)).frozen? ⟨w.heap.size, 0, none⟩ = false := by simp
    have HX := Lib.hid (E.is_below hx hb0)
    have HB0 := Lib.hid hb0
    have HTo := Lib.hid htold
    obtain ⟨T0, u0, rfl⟩ := E.iface hx hne
    clear hx hb0 htold
    go_enter Tryd.func13, Tryd.ntmps13
    go_wp2_with (go_at_call 24; refine (As_chain x _ ⟨w.heap.size, 0, none⟩ (.int .i64 0) _ hg2 HX.out hne ht2 hf2).mono ?_; rintro ev w' (⟨n, hk, rfl, w1, hb1, rfl⟩ | ⟨hk, rfl, hb1⟩); (try (have hc3 := (Boxed.set (.int .i64 n) ((hb1.block w.heap.size (by simp)).trans (Boxed.new w 24 (.int .i64 0)))).cell)))
    · go_ret
      refine ⟨by rw [HTo.out, hk]; rfl, ?_⟩
      exact (HB0.out.trans (hb1.mono (by simp))).setCell (p := ⟨w.heap.size, 0, none⟩) (Nat.le_refl _) _
    · go_ret
      exact ⟨by rw [HTo.out, hk]; rfl, HB0.out.trans (hb1.mono (by simp))⟩
theorem Wrap_nil (at_ : Int) (what : ByteArray) (w : World) : Calls Tryd.prog 12 #[.nilIface, .int .i64 at_, .string what] w fun ev w' => ev = .returned .nilIface ∧ w' = w := by
  go_enter Tryd.func12, Tryd.ntmps12
  go_wp2
  go_ret
  exact ⟨rfl, rfl⟩
theorem New_nil (at_ : Int) (what : ByteArray) (w : World) : Calls Tryd.prog 11 #[.int .i64 0, .int .i64 at_, .string what] w fun ev w' => ev = .returned .nilIface ∧ w' = w := by
  go_enter Tryd.func11, Tryd.ntmps11
  go_wp2
  go_ret
  exact ⟨rfl, rfl⟩
theorem fault_at (w : World) (a : Int) (s : ByteArray) (u : Value) : FaultAt (w.alloc (.cells #[.int .i64 a, .string s, u] 47)) (w.heap.size, a, s) u :=
  ⟨by rw [World.cell?_alloc_new]; rfl, by rw [World.cell?_alloc_new]; rfl, by rw [World.cell?_alloc_new]; rfl⟩
/-- New, as data. -/
theorem New_is (n at_ : Int) (what : ByteArray) (w : World) (hn : ¬ n = 0) : Calls Tryd.prog 11 #[.int .i64 n, .int .i64 at_, .string what] w fun ev w' => ∃ v, ev = .returned v ∧ E.is w' (.fault w.heap.size at_ what (.errno n)) v ∧ Below w.heap.size w w' :=
  (New_ok n at_ what w hn).mono fun ev w' ⟨h1, h2⟩ => ⟨_, h1, by rw [h2]; exact ⟨rfl, _, fault_at w at_ what _, rfl⟩, by rw [h2]; exact (Below.refl _ _).alloc (Nat.le_refl _) _⟩
/-- Wrap, as data. -/
theorem Wrap_is (x : E) (e : Value) (at_ : Int) (what : ByteArray) (w : World) (hx : E.is w x e) (hne : x ≠ .nil) : Calls Tryd.prog 12 #[e, .int .i64 at_, .string what] w fun ev w' => ∃ v, ev = .returned v ∧ E.is w' (.fault w.heap.size at_ what x) v ∧ Below w.heap.size w w' := by
  obtain ⟨T0, u0, rfl⟩ := E.iface hx hne
  have HX := Lib.hid (E.is_below hx ((Below.refl w.heap.size w).alloc (Nat.le_refl _) (.cells #[.int .i64 at_, .string what, .iface T0 u0] 47)))
  clear hx
  go_enter Tryd.func12, Tryd.ntmps12
  go_wp2
  go_ret
  exact ⟨_, rfl, ⟨rfl, _, fault_at w at_ what _, HX.out⟩, (Below.refl _ _).alloc (Nat.le_refl _) _⟩
end Go.Proofs.YtlngefnimnjkkaaDoor.P
