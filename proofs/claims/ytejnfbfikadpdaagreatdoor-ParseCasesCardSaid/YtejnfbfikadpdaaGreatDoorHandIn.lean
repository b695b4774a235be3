/- A region that draws, within a round of a range over a function: it is walked as outside of one. -/
import Derived.Test.YtejnfbfikadpdaaGreatDoorWLast
import Derived.Test.YtejnfbfikadpdaaGreatDoorWWords
import Derived.RangeFuncCalls
import Derived.OrdersIn
import Derived.OwnWalkIn
namespace Go.Proofs.YtejnfbfikadpdaaGreatDoor.P
open Go.RowKit Go.Proofs.YtejnfbfikadpdaaGreatDoorW.PrintWords Go.Proofs.YtejnfbfikadpdaaGreatDoorW.PrintLast
set_option linter.unusedVariables false
def OnlyEnd (Q : Exit → Act → World → Prop) : Exit → Act → World → Prop
  | .normal, a, w => Q .normal a w
  | _, _, _ => False
theorem OnlyEnd.le {Q : Exit → Act → World → Prop} : ∀ (e : Exit) (a : Act) (w : World), OnlyEnd Q e a w → Q e a w
  | .normal, _, _, h => h
  | .exit _, _, _, h => h.elim
  | .goto _, _, _, h => h.elim
  | .ret, _, _, h => h.elim
  | .panic _, _, _, h => h.elim
  | .outgrown, _, _, h => h.elim
section
variable {P : Program} {ops : Array Oper} {Q : Exit → Act → World → Prop} {md : Region.Mode} {S : World → Prop} {ds : List Nat}
theorem uponIn_of {o : Oper} {a : Act} {next : Act → World → Prop} {n lp : Nat} {r : Result Next} (h : o.upon P a next (OnlyEnd Q) r) : o.uponIn (Fence.wide.inRound lp) n P a next (OnlyEnd Q) r := by
  cases r with
  | ok x w' =>
    cases x with
    | value v => exact h
    | skip => exact h
    | defer d => exact h
    | enter f args =>
      have h' : Calls P f args w' _ := h
      refine ⟨fun hd => absurd hd (by simp [Fence.wide, Fence.inRound]), CallsIn.inRound lp (callsIn_wide.2 (h'.mono fun e w'' hh => ?_))⟩
      cases e <;> exact hh
    | row row args =>
      have h' : Rows P row args w' _ := h
      refine ⟨fun hd => absurd hd (by simp [Fence.wide, Fence.inRound]), fun c cs _ => ?_⟩
      obtain ⟨v, w'', hr, hs⟩ := h' c cs
      exact ⟨v, w'', hr, stepsIn_wide.2 hs⟩
    | _ => exact h.elim
  | halt x w' =>
    cases x with
    | panic v => exact h
    | _ => exact h.elim
theorem wpAnyIn_of_any {n lp : Nat} (hd : ∀ (i : Nat) (o : Oper), ops[i]? = some o → ∀ c, o.op ≠ .defer c) (hl : ¬ LetsOut (OnlyEnd Q)) : ∀ (fuel : Nat) (listed : Array Bool) (a : Act) (w : World), wpAny P md ops (OnlyEnd Q) fuel listed a w → wpAnyIn (Fence.wide.inRound lp) n P md ops (OnlyEnd Q) fuel listed a w
  | 0, _, _, _, h => h
  | fuel + 1, listed, a, w, h => by
    refine ⟨h.1, fun i hi => ?_⟩
    have h2 := h.2 i hi
    unfold wpOp at h2
    unfold wpOpIn
    cases ho : ops[i]? with
    | none =>
      rw [ho] at h2
      exact wpAnyIn_of_any hd hl fuel _ _ _ h2
    | some o =>
      rw [ho] at h2
      dsimp only at h2 ⊢
      by_cases hw : Region.wanted o (yielded ops a.tmps) = true
      · rw [if_pos hw] at h2 ⊢
        rcases h2 with h2 | ⟨_, h2⟩
        · refine ⟨fun _ _ => trivial, ?_⟩
          rw [Oper.semAt_plain _ _ _ (hd i o ho)]
          refine uponIn_of ?_
          exact Oper.wp_mono (fun a w h => wpAnyIn_of_any hd hl fuel _ a w h) h2
        · exact absurd h2 hl
      · rw [if_neg hw] at h2 ⊢
        exact ⟨fun _ _ => trivial, wpAnyIn_of_any hd hl fuel _ _ _ h2⟩
theorem noLets : ¬ LetsOut (OnlyEnd Q) := fun ⟨_, _, h⟩ => h
def plainOps (ops : Array Oper) : Bool := ops.toList.all fun o => match o.op with
  | .defer _ => false
  | _ => true
theorem plainOps_ne (h : plainOps ops = true) : ∀ (i : Nat) (o : Oper), ops[i]? = some o → ∀ c, o.op ≠ .defer c := fun i o ho c hc => by
  have hm : o ∈ ops.toList := Array.mem_toList_iff.2 (Array.mem_of_getElem? ho)
  have := List.all_eq_true.1 h o hm
  rw [hc] at this
  cases this
theorem startIn_ {id m n lp : Nat} {a : Act} {w : World} (l : Array Bool) (hm : P.follows .mixedOrders = true) (hn : ops.size = n) (hl : Array.replicate n false = l) (hS : S w.drew) (hd : plainOps ops = true)
    (h : S w.drew → wpAnyLast P .any ops (OnlyEnd Q) S ds n l a w.drew) : (Code.region id ops true).wpIn (Fence.wide.inRound lp) m P Q a w := by
  subst hn
  subst hl
  exact Code.wpIn_mono OnlyEnd.le (wpIn_region_any hm (wpAnyIn_of_any (plainOps_ne hd) noLets _ _ _ _ (wpAny_of_last _ _ _ _ (h hS))))
end
end Go.Proofs.YtejnfbfikadpdaaGreatDoor.P
