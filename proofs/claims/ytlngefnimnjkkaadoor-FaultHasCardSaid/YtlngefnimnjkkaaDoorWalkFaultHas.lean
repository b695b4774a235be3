/- The law FaultHas, walked by hand. -/
import Derived.Test.YtlngefnimnjkkaaDoorWalkMade
namespace Go.Proofs.YtlngefnimnjkkaaDoor.P
open Go.RowKit Go.Shelf Go.Proofs.YtlngefnimnjkkaaDoorW.PrintWords
attribute [local go_sem] Oper.semAt_some
set_option linter.unusedVariables false
set_option linter.unusedSimpArgs false
def isoglosslaw01_FaultHas.f (k : Nat) (l0 : List S43) (a1 a2 : Int) : Option Bool :=
  (isoglosslaw01_row.f k l0 a1).bind fun p => if p.2 = 0 ∨ 9 < p.1.length then none else some true
set_option maxRecDepth 100000 in
set_option maxHeartbeats 8000000 in
theorem isoglosslaw01_FaultHas.calls (k : Nat) (A0 : Option Addr) (c0 : Nat) (l0 : List S43) (a1 a2 : Int) (r0 : Bool) (w : World) (hr0 : Kd.C k43 w A0 l0.length l0) (hc0 : l0.length ≤ c0) (hg : w.cell? ⟨0, 0, none⟩ = some errGV) (h : isoglosslaw01_FaultHas.f k l0 a1 a2 = some r0) (hrt : r0 = true) :
    Calls Tryd.prog 4 #[.slice A0 l0.length c0, .int .i64 a1, .int .i64 a2] w fun e w' => e = .returned (.bool r0) ∧ Below w.heap.size w w' := by
  unfold isoglosslaw01_FaultHas.f at h
  obtain ⟨⟨r1, r2⟩, e1, h1⟩ := Option.bind_eq_some_iff.1 h
  clear h
  have hr2 : ¬ r2 = 0 ∧ r1.length ≤ 9 := by
    by_cases c : r2 = 0 ∨ 9 < r1.length
    · have h2 : (if r2 = 0 ∨ 9 < r1.length then none else some true) = some r0 := h1
      rw [if_pos c] at h2; cases h2
    · exact ⟨fun h => c (.inl h), by have := fun h => c (.inr h); omega⟩
  clear h1
  subst hrt
  obtain ⟨hr2, hl9⟩ := hr2
  obtain ⟨b, hb⟩ : ∃ b, (a2 == r2) = b := ⟨_, rfl⟩
  have hbb : (b == b) = true := beq_self_eq_true b
  have E1 := Lib.hid e1
  have HG := Lib.hid hg
  have HR := Lib.hid hr0
  have HC := Lib.hid hc0
  have HL := Lib.hid hl9
  clear e1 hg hr0 hc0 hl9
  have OC := Lib.hid (fun (x : E) (v : Value) (W : World) (hx : E.is W x v) (hk : x.kind = some r2) => show Calls Tryd.prog 18 #[v, .int .i64 a2] W fun ev w' => ev = .returned (.bool b) ∧ Below W.heap.size W w' by
    have h := Has_any x v a2 W hx
    have e : x.has a2 = b := by
      unfold E.has; rw [hk, ← hb]
      by_cases c : a2 = r2
      · subst c; rw [beq_self_eq_true, beq_self_eq_true]
      · rw [beq_eq_false_iff_ne.2 c, beq_eq_false_iff_ne.2 (fun q => c (Option.some.inj q).symm)]
    rwa [e] at h)
  have TC := Lib.hid (fun (x : E) (v : Value) (W : World) (hx : E.is W x v) (hk : x.kind = some r2) => show Calls Tryd.prog 18 #[v, .int .i64 r2] W fun ev w' => ev = .returned (.bool true) ∧ Below W.heap.size W w' by
    have h := Has_any x v r2 W hx
    have e : x.has r2 = true := by unfold E.has; rw [hk]; exact beq_self_eq_true _
    rwa [e] at h)
  have NC := Lib.hid (fun (W : World) => show Calls Tryd.prog 18 #[.nilIface, .int .i64 r2] W fun ev w' => ev = .returned (.bool false) ∧ Below W.heap.size W w' from Has_any .nil .nilIface r2 W rfl)
  go_enter Tryd.func4, Tryd.ntmps4
  go_wp2_with (first
    | (go_at_call 9; refine (isoglosslaw01_awake.calls _ HG.out).mono ?_; rintro e w2 ⟨rfl, hb⟩; have B2 := Lib.hid hb; have HR2 := Lib.hid (Kd.C_below HR.out hb); clear hb HG HR)
    | (go_at_call 10; refine (isoglosslaw01_row.calls k _ _ _ _ _ _ _ HR2.out HC.out E1.out).mono ?_; rintro e w3 ⟨v3, rfl, ho3, hb3⟩; obtain ⟨A3, c3, rfl⟩ := Kd.R_slice ho3; have HR3 := Lib.hid (Kd.R_reads' ho3).2.2; have B3 := Lib.hid (below_step B2.out hb3); clear hb3 B2 HR2 ho3)
    | (go_at_call 17; refine (made_calls A3 c3 r1 r2 _ (Kd.C_alloc HR3.out _) hr2 HL.out).mono ?_; rintro e w4 ⟨v4, x, rfl, h4, hne4, hk4, hb4⟩
       have HC4 : Hid (w4.cell? ⟨w3.heap.size, 1, none⟩ = some (.int .i64 r2)) := Lib.hid (pw_cell_below hb4 (by rw [World.cell?_alloc_new]; rfl))
       have B4 := Lib.hid (below_step (B3.out.alloc B3.out.size _) hb4)
       have X4 := Lib.hid h4
       have XK := Lib.hid hk4
       clear h4 hb4 B3 HR3 hne4 hk4))
  have XB : Hid (E.is w4.drew x v4) := Lib.hid (E.is_below X4.out (below_drew (Below.refl w4.heap.size w4)))
  clear E1 HL HC hr2 X4
  go_region_held3 (fun W' => W'.cell? ⟨w3.heap.size, 1, none⟩ = some (.int .i64 r2)) (first | exact C7.out | exact C6.out | exact C5.out | exact HC4.out) (first
    | (go_at_call 18; refine (TC.out x _ _ XB.out XK.out).mono ?_; rintro e w5 ⟨rfl, hb⟩; have X5 : Hid (E.is w5 x v4) := Lib.hid (E.is_below XB.out hb); have C5 := Lib.hid (pw_cell_below hb HC4.out); have B5 : Hid (Below w.heap.size w w5) := Lib.hid (below_step (below_drew B4.out) hb); clear hb XB)
    | (go_at_call 18; refine (OC.out x _ _ X5.out XK.out).mono ?_; rintro e w6 ⟨rfl, hb⟩; have C6 := Lib.hid (pw_cell_below hb C5.out); have B6 : Hid (Below w.heap.size w w6) := Lib.hid (below_step B5.out hb); clear hb X5)
    | (go_at_call 18; refine (NC.out _).mono ?_; rintro e w7 ⟨rfl, hb⟩; have C7 := Lib.hid (pw_cell_below hb C6.out); have B7 : Hid (Below w.heap.size w w7) := Lib.hid (below_step B6.out hb); clear hb))
  all_goals go_wp2
  all_goals go_ret
  all_goals exact ⟨rfl, B7.out⟩
end Go.Proofs.YtlngefnimnjkkaaDoor.P
