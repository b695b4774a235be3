/- parse.Parse, walked: what it comes to, told by the text alone. Conditions: the variable names holds the names; texts are shorter than a million bytes. -/
import Derived.Test.YtejnfbfikadpdaaGreatDoorWLast
import Derived.Test.YtejnfbfikadpdaaGreatDoorWWords
import Derived.RangeFuncCalls
import Derived.OrdersIn
import Derived.OwnWalkIn
import Derived.Test.YtejnfbfikadpdaaGreatDoorPx0
import Derived.Test.YtejnfbfikadpdaaGreatDoorPx1
import Derived.Test.YtejnfbfikadpdaaGreatDoorSq
import Derived.Test.YtejnfbfikadpdaaGreatDoorHandAll
import Derived.Test.YtejnfbfikadpdaaGreatDoorHandFind
import Derived.Test.YtejnfbfikadpdaaGreatDoorHandRec
import Derived.Test.YtejnfbfikadpdaaGreatDoorHand1
import Derived.RangeFuncWrites
import Derived.RangeFuncNested
namespace Go.Proofs.YtejnfbfikadpdaaGreatDoor.P
open Go.RowKit Go.Proofs.YtejnfbfikadpdaaGreatDoorW.PrintWords Go.Proofs.YtejnfbfikadpdaaGreatDoorW.PrintLast
set_option linter.unusedVariables false
def OnlyEnd (Q : Exit → Act → World → Prop) : Exit → Act → World → Prop
  | .normal, a, w => Q .normal a w
  | _, _, _ => False
theorem OnlyEnd.le {Q : Exit → Act → World → Prop} : ∀ (e : Exit) (a : Act) (w : World), OnlyEnd Q e a w → Q e a w
  | .normal, _, _, h => h
  | .exit _, _, _, h => h.elim
  | .goto _, _, _, h => h.elim
  | .ret, _, _, h => h.elim
  | .panic _, _, _, h => h.elim
  | .outgrown, _, _, h => h.elim
section
variable {P : Program} {ops : Array Oper} {Q : Exit → Act → World → Prop} {md : Region.Mode} {S : World → Prop} {ds : List Nat}
theorem uponIn_of {o : Oper} {a : Act} {next : Act → World → Prop} {n lp : Nat} {r : Result Next} (h : o.upon P a next (OnlyEnd Q) r) : o.uponIn (Fence.wide.inRound lp) n P a next (OnlyEnd Q) r := by
  cases r with
  | ok x w' =>
    cases x with
    | value v => exact h
    | skip => exact h
    | defer d => exact h
    | enter f args =>
      have h' : Calls P f args w' _ := h
      refine ⟨fun hd => absurd hd (by simp [Fence.wide, Fence.inRound]), CallsIn.inRound lp (callsIn_wide.2 (h'.mono fun e w'' hh => ?_))⟩
      cases e <;> exact hh
    | row row args =>
      have h' : Rows P row args w' _ := h
      refine ⟨fun hd => absurd hd (by simp [Fence.wide, Fence.inRound]), fun c cs _ => ?_⟩
      obtain ⟨v, w'', hr, hs⟩ := h' c cs
      exact ⟨v, w'', hr, stepsIn_wide.2 hs⟩
    | _ => exact h.elim
  | halt x w' =>
    cases x with
    | panic v => exact h
    | _ => exact h.elim
theorem wpAnyIn_of_any {n lp : Nat} (hd : ∀ (i : Nat) (o : Oper), ops[i]? = some o → ∀ c, o.op ≠ .defer c) (hl : ¬ LetsOut (OnlyEnd Q)) : ∀ (fuel : Nat) (listed : Array Bool) (a : Act) (w : World), wpAny P md ops (OnlyEnd Q) fuel listed a w → wpAnyIn (Fence.wide.inRound lp) n P md ops (OnlyEnd Q) fuel listed a w
  | 0, _, _, _, h => h
  | fuel + 1, listed, a, w, h => by
    refine ⟨h.1, fun i hi => ?_⟩
    have h2 := h.2 i hi
    unfold wpOp at h2
    unfold wpOpIn
    cases ho : ops[i]? with
    | none =>
      rw [ho] at h2
      exact wpAnyIn_of_any hd hl fuel _ _ _ h2
    | some o =>
      rw [ho] at h2
      dsimp only at h2 ⊢
      by_cases hw : Region.wanted o (yielded ops a.tmps) = true
      · rw [if_pos hw] at h2 ⊢
        rcases h2 with h2 | ⟨_, h2⟩
        · refine ⟨fun _ _ => trivial, ?_⟩
          rw [Oper.semAt_plain _ _ _ (hd i o ho)]
          refine uponIn_of ?_
          exact Oper.wp_mono (fun a w h => wpAnyIn_of_any hd hl fuel _ a w h) h2
        · exact absurd h2 hl
      · rw [if_neg hw] at h2 ⊢
        exact ⟨fun _ _ => trivial, wpAnyIn_of_any hd hl fuel _ _ _ h2⟩
theorem noLets : ¬ LetsOut (OnlyEnd Q) := fun ⟨_, _, h⟩ => h
def plainOps (ops : Array Oper) : Bool := ops.toList.all fun o => match o.op with
  | .defer _ => false
  | _ => true
theorem plainOps_ne (h : plainOps ops = true) : ∀ (i : Nat) (o : Oper), ops[i]? = some o → ∀ c, o.op ≠ .defer c := fun i o ho c hc => by
  have hm : o ∈ ops.toList := Array.mem_toList_iff.2 (Array.mem_of_getElem? ho)
  have := List.all_eq_true.1 h o hm
  rw [hc] at this
  cases this
theorem startIn_ {id m n lp : Nat} {a : Act} {w : World} (l : Array Bool) (hm : P.follows .mixedOrders = true) (hn : ops.size = n) (hl : Array.replicate n false = l) (hS : S w.drew) (hd : plainOps ops = true)
    (h : S w.drew → wpAnyLast P .any ops (OnlyEnd Q) S ds n l a w.drew) : (Code.region id ops true).wpIn (Fence.wide.inRound lp) m P Q a w := by
  subst hn
  subst hl
  exact Code.wpIn_mono OnlyEnd.le (wpIn_region_any hm (wpAnyIn_of_any (plainOps_ne hd) noLets _ _ _ _ (wpAny_of_last _ _ _ _ (h hS))))
end
end Go.Proofs.YtejnfbfikadpdaaGreatDoor.P
namespace Go.Proofs.YtejnfbfikadpdaaGreatDoor.P
open Go.RowKit Go.Proofs.YtejnfbfikadpdaaGreatDoorW.PrintWords Go.Proofs.YtejnfbfikadpdaaGreatDoorW.PrintLast Go.Proofs.YtejnfbfikadpdaaGreatDoorW.PrintMore
attribute [local go_sem] max2_int min2_int max_two min_two max_three min_three max_four min_four   -- for this text's walks alone
set_option linter.unusedVariables false
set_option linter.unusedSimpArgs false
theorem ascii_Lower_byte (c : UInt8) : ascii_lower.f (c.toNat : Int) = some ((Iso.lowC c).toNat : Int) := by
  have hc := c.toNat_lt
  have e : (Iso.lowC c).toNat = if 65 ≤ c.toNat ∧ c.toNat ≤ 90 then c.toNat + 32 else c.toNat :=
    of_decide_eq_true (Iso.byte_all (fun c => decide ((Iso.lowC c).toNat = if 65 ≤ c.toNat ∧ c.toNat ≤ 90 then c.toNat + 32 else c.toNat)) (by decide +kernel) c)
  unfold ascii_lower.f
  rw [e]
  by_cases h : 65 ≤ c.toNat ∧ c.toNat ≤ 90
  · rw [if_pos (by omega), if_pos (by omega), if_pos h]; congr 1; omega
  · rw [if_neg h]; split
    · rw [if_neg (by omega)]
    · rfl
theorem ascii_Lower_1_calls (i : Nat) (c : UInt8) (W : World) : Calls Tryz.prog 72 #[.int .i64 i, .int .u8 c.toNat] W fun e w' => e = .returned (.int .u8 (Iso.lowC c).toNat) ∧ Below W.heap.size W w' := by
  have H := Lib.hid (ascii_Lower_byte c)
  go_enter Tryz.func72, Tryz.ntmps72
  go_wp2_with (go_at_call 73; refine (ascii_lower.calls _ _ _ H.out).mono ?_; rintro e w' ⟨rfl, hb⟩)
  go_ret
  exact ⟨rfl, hb.below⟩
def ascii_Lower.f (a0 : ByteArray) : Option ByteArray := if a0.size ≤ 140737488355328 then some (Iso.mk ((Iso.bl a0).mapIdx fun i c => Iso.lowC c)) else none
set_option maxHeartbeats 8000000 in
set_option maxRecDepth 100000 in
theorem ascii_Lower.calls (a0 : ByteArray) (r : ByteArray) (w : World) (h : ascii_Lower.f a0 = some r) :
    Calls Tryz.prog 42 #[.string a0] w fun e w' => e = .returned (.string r) ∧ Below w.heap.size w w' := by
  unfold ascii_Lower.f at h
  have hs : a0.size ≤ 140737488355328 := by
    by_cases c2 : a0.size ≤ 140737488355328
    · exact c2
    · rw [if_neg c2] at h; cases h
  rw [if_pos hs] at h
  obtain rfl := Option.some.inj h
  have HC := Lib.hid (fun W => each_calls 72 (fun i c => Iso.lowC c) (fun i c W => ascii_Lower_1_calls i c W) (enters_of Tryz.func72 (by kernel_rfl) rfl) a0 hs W)
  clear h
  go_enter Tryz.func42, Tryz.ntmps42
  go_wp2_with (go_at_call 71; refine (HC.out _).mono ?_; rintro e w' ⟨rfl, hb⟩)
  go_ret
  exact ⟨rfl, hb⟩
end Go.Proofs.YtejnfbfikadpdaaGreatDoor.P
namespace Go.Proofs.YtejnfbfikadpdaaGreatDoor.P
open Go.RowKit Go.Shelf Go.Proofs.YtejnfbfikadpdaaGreatDoorW.PrintWords Go.Proofs.YtejnfbfikadpdaaGreatDoorW.PrintLast Go.Proofs.YtejnfbfikadpdaaGreatDoorW.PrintMore Go.Proofs.YtejnfbfikadpdaaGreatDoor.Iso
set_option linter.unusedVariables false
set_option linter.unusedSimpArgs false
attribute [local go_sem] Oper.semAt_some
def mkP (x : Nat × ByteArray) : PieceR := ⟨(x.1 : Int), mk (low (bl x.2))⟩
def piecesOf (s : ByteArray) : List PieceR := (eachB s).map mkP
theorem mapIdx_map {α β : Type} (f : α → β) : ∀ l : List α, l.mapIdx (fun _ c => f c) = l.map f
  | [] => rfl
  | a :: t => by rw [List.mapIdx_cons, mapIdx_map f t]; rfl
theorem Lower_calls (s : ByteArray) (hs : s.size ≤ 140737488355328) (W : World) : Calls Tryz.prog 42 #[.string s] W fun e W' => e = .returned (.string (mk (low (bl s)))) ∧ Below W.heap.size W W' := by
  refine ascii_Lower.calls s _ W ?_
  unfold ascii_Lower.f
  rw [if_pos hs]
  congr 2
  unfold low
  exact mapIdx_map lowC _
theorem hinfoP : (Tryz.prog.info? 75).map (fun i => (i.zero, i.size, i.bytes)) = some (some (.agg #[.int .i64 0, .string ⟨#[]⟩]), 2, 24) := by kernel_rfl
abbrev nilV : Value := .slice none 0 0
structure PaAt (w : World) (N : Nat) (E : Int) (W : World) (xs : List PieceR) : Prop where
  bel : Below w.heap.size w W
  t : W.heap[w.heap.size]? = some (.cells zTag 29 (0, 0))
  e : W.heap[w.heap.size + 1]? = some (.cells #[.nilIface] 33 (0, 0))
  rb : W.heap[N + 1]? = some (.cells #[.pointer (some ⟨N, 0, none⟩)] 67 (0, 0))
  row : ∃ A c, W.heap[N]? = some (.cells (rdCells A xs.length c E T0 nilV nilV nilV nilV) 70 (0, 0)) ∧ Kd.R k75 75 W (N + 3) (fun _ => True) (.slice A xs.length c) xs
  size : N + 3 ≤ W.heap.size
theorem grown_blk {W W' : World} {row : Option Nat} (hg : W.grownBy W' row) (hr : ∀ r, row = some r → ∃ o : Obj, W.heap[r]? = some o ∧ o.isCells = false) {k : Nat} {cs : Array Value} {t : TypeId} (h : W.heap[k]? = some (.cells cs t (0, 0))) : W'.heap[k]? = some (.cells cs t (0, 0)) :=
  (hg.block k (blk_lt h) (fun e => by
    obtain ⟨o, ho, hc⟩ := hr k e.symm
    rw [h] at ho
    cases Option.some.inj ho
    cases hc)).trans h
theorem PaAt.own {w : World} {N : Nat} {E : Int} (B : Nat) (hB : w.heap.size ≤ B) {β : Type} (f : β → List PieceR) : OwnFrom B (fun (s : β) W => PaAt w N E W (f s)) := fun s W W' row h hg hr => by
  have hr2 : ∀ r, row = some r → ∃ o : Obj, W.heap[r]? = some o ∧ o.isCells = false := fun r e => (hr r e).2
  obtain ⟨A, c, h1, h2⟩ := h.row
  refine ⟨h.bel.grown hg h.bel.size (fun k hk => Nat.le_trans hB (hr k hk).1), grown_blk hg hr2 h.t, grown_blk hg hr2 h.e, grown_blk hg hr2 h.rb, ⟨A, c, grown_blk hg hr2 h1, ?_⟩, Nat.le_trans h.size hg.size⟩
  refine Kd.R_mono (Kd.R_grown (Kd.R_bound h2) hg (fun k hk e => ?_)) (fun _ _ => trivial)
  obtain ⟨q, _, cells, hc⟩ := hk.2.2.2
  obtain ⟨o, ho, hf⟩ := hr2 k e.symm
  rw [hc] at ho
  cases Option.some.inj ho
  cases hf
def parseR (s : ByteArray) : PRes := if isGrand s then .good { T0 with grand := mk (low (bl s)) } else allR (s.size : Int) (piecesOf s)
def ParseSaid (w : World) (r : PRes) (e : Ending) (W' : World) : Prop :=
  Below w.heap.size w W' ∧ match r with
  | .good T => ∃ u1 u4 u5 u6, e = .returned (.tuple #[.agg #[.string T.lang, u1, .string T.script, .string T.region, u4, u5, u6, .string T.grand], .nilIface]) ∧ OwnT W' w.heap.size u1 u4 u5 u6 T.ext T.vars T.exts T.priv
  | .bad k a s => ∃ B, e = .returned (.tuple #[.agg zTag, .iface 93 (.pointer (some ⟨B, 0, none⟩))]) ∧ FaultAt W' (B, a, s) (.iface 49 (.int .i64 k)) ∧ w.heap.size ≤ B
theorem keeps_below {A C : World} (h : Below A.heap.size A C) : KeepsOthers A C := ⟨h.size, fun k o hk _ => (h.block k (blk_lt hk)).trans hk⟩
theorem keeps_grown {A C : World} {e base : Nat} {v : Value} {xs : List PieceR} (hr : Kd.R k75 e A base (fun _ => True) v xs) (hg : A.grownBy C v.ownBlock) : KeepsOthers A C :=
  KeepsOthers.of_grownBy hg (fun j o hj ho => by
    obtain ⟨cells, hc⟩ := Kd.R_typed hr j hj
    rw [hc] at ho
    cases Option.some.inj ho
    rfl)
theorem eachGo_size : ∀ (l : Str) (a : Nat) (acc : Str), ∀ p ∈ Iso.eachGo a acc l, p.2.length ≤ acc.length + l.length := by
  intro l
  induction l with
  | nil => intro a acc p hp; simp [Iso.eachGo] at hp; rw [hp]; simp
  | cons c t ih =>
    intro a acc p hp
    unfold Iso.eachGo at hp
    split at hp
    · rcases List.mem_cons.1 hp with rfl | hp
      · simp
      · have := ih _ _ p hp
        simp at this ⊢; omega
    · have := ih _ _ p hp
      simp at this ⊢; omega
theorem eachB_size (s : ByteArray) : ∀ x ∈ eachB s, x.2.size ≤ s.size := by
  intro x hx
  unfold eachB at hx
  obtain ⟨p, hp, rfl⟩ := List.mem_map.1 hx
  have := eachGo_size (Iso.bl s) 0 [] p hp
  show (Iso.mk p.2).size ≤ _
  rw [Iso.mk_size]
  rw [Iso.bl_len] at this
  simpa using this
theorem eachB_len (s : ByteArray) : (eachB s).length ≤ s.size + 1 := by
  unfold eachB
  rw [List.length_map]
  have := Iso.eachGo_length (Iso.bl s) 0 []
  rw [Iso.bl_len] at this
  unfold Iso.each; omega
theorem ownT_setE {W : World} {base : Nat} {v1 v4 v5 v6 : Value} {l1 l4 : List ByteArray} {l5 : List S47} {l6 : List ByteArray} (h : OwnT W base v1 v4 v5 v6 l1 l4 l5 l6) {g : Nat} {cells : Array Value} (hb : W.heap[g]? = some (.cells cells 33 (0, 0))) (j : Nat) (u : Value) : OwnT (W.setCell ⟨g, j, none⟩ u) base v1 v4 v5 v6 l1 l4 l5 l6 :=
  ⟨Kd.R_set h.1 hb (by decide) j u, Kd.R_set h.2.1 hb (by decide) j u, Kd.S_set h.2.2.1 hb (by decide) j u, Kd.R_set h.2.2.2 hb (by decide) j u⟩
theorem all_good {w0 wp W : World} {g : Nat} {ps : List PieceR} {E : Int} {T : TG} (h : Rd w0 wp W g ps E T0 nilV nilV nilV nilV) (hn : ps.length ≤ 1000000) (hr : allR E ps = .good T) :
    Calls Tryz.prog 45 #[.pointer (some ⟨g, 0, none⟩)] W fun e W' => ∃ u1 u4 u5 u6, e = .returned (.tuple #[]) ∧ Rd w0 wp W' g [] E T u1 u4 u5 u6 :=
  (all_calls h hn).mono fun e w hh => by rw [hr] at hh; exact hh
theorem all_bad {w0 wp W : World} {g : Nat} {ps : List PieceR} {E : Int} {k a : Int} {s : ByteArray} (h : Rd w0 wp W g ps E T0 nilV nilV nilV nilV) (hn : ps.length ≤ 1000000) (hr : allR E ps = .bad k a s) :
    Calls Tryz.prog 45 #[.pointer (some ⟨g, 0, none⟩)] W fun e W' => (∃ B, e = .panicked [{ v := .iface 77 (.agg #[.iface 93 (.pointer (some ⟨B, 0, none⟩))]), recovered := false }] ∧ FaultAt W' (B, a, s) (.iface 49 (.int .i64 k)) ∧ wp.heap.size ≤ B) ∧ BadK w0 wp g W' :=
  (all_calls h hn).mono fun e w hh => by rw [hr] at hh; exact hh
section
variable {W W' : World} {row : Option Nat} {base : Nat} {v1 v4 v5 v6 : Value} {l1 l4 l6 : List ByteArray} {l5 : List S47}
theorem notBlk (hr : ∀ r, row = some r → ∃ o : Obj, W.heap[r]? = some o ∧ o.isCells = false) {k q : Nat} {cells : Array Value} (hc : W.heap[k]? = some (.cells cells q (0, 0))) : some k ≠ row := fun e => by
  obtain ⟨o, ho, hf⟩ := hr k e.symm
  rw [hc] at ho
  cases Option.some.inj ho
  cases hf
theorem OwnT.other (h : OwnT W base v1 v4 v5 v6 l1 l4 l5 l6) (hg : W.grownBy W' row) (hr : ∀ r, row = some r → ∃ o : Obj, W.heap[r]? = some o ∧ o.isCells = false) : OwnT W' base v1 v4 v5 v6 l1 l4 l5 l6 :=
  ⟨Kd.R_mono (Kd.R_grown (Kd.R_bound h.1) hg (fun k hk => by obtain ⟨q, _, cells, hc⟩ := hk.2.2.2; exact notBlk hr hc)) (fun _ h => h.1),
    Kd.R_mono (Kd.R_grown (Kd.R_bound h.2.1) hg (fun k hk => by obtain ⟨q, _, cells, hc⟩ := hk.2.2.2; exact notBlk hr hc)) (fun _ h => h.1),
    Kd.S_mono (Kd.S_grown (Kd.S_bound h.2.2.1) hg (fun k hk => by obtain ⟨q, _, cells, hc⟩ := hk.2.2.2; exact notBlk hr hc)) (fun _ h => h.1),
    Kd.R_mono (Kd.R_grown (Kd.R_bound h.2.2.2) hg (fun k hk => by obtain ⟨q, _, cells, hc⟩ := hk.2.2.2; exact notBlk hr hc)) (fun _ h => h.1)⟩
theorem OwnT.lower {base' : Nat} (h : OwnT W base v1 v4 v5 v6 l1 l4 l5 l6) (hb : base' ≤ base) : OwnT W base' v1 v4 v5 v6 l1 l4 l5 l6 := ⟨Kd.R_lower h.1 hb, Kd.R_lower h.2.1 hb, Kd.S_lower h.2.2.1 hb, Kd.R_lower h.2.2.2 hb⟩
end
theorem faultAt_on {W W' : World} {x : Nat × Int × ByteArray} {i : Value} (h : FaultAt W x i) (hk : W'.heap[x.1]? = W.heap[x.1]?) : FaultAt W' x i := by
  refine ⟨?_, ?_, ?_⟩
  · have := h.at_; unfold World.cell? at this ⊢; rw [hk]; exact this
  · have := h.what; unfold World.cell? at this ⊢; rw [hk]; exact this
  · have := h.inner; unfold World.cell? at this ⊢; rw [hk]; exact this
theorem parse_results {tmps : Array Value} {W : World} {g g' : Nat} {cs : Array Value} {v : Value} (hp : tmps.getD 2 undef = .pointer (some ⟨g, 0, none⟩)) (hg : W.heap[g]? = some (.cells cs 29 (0, 0))) (hs : cs.size = 8) (hp' : tmps.getD 3 undef = .pointer (some ⟨g', 0, none⟩)) (hg' : W.heap[g']? = some (.cells #[v] 33 (0, 0))) :
    (results Tryz.f13 tmps).run Tryz.prog W = .ok (.tuple #[.agg cs, v]) W := by
  have hc : W.cell? ⟨g', 0, none⟩ = some v := (blk_cell hg' 0).trans rfl
  have hr := run_loadVar_row (P := Tryz.prog) W g 29 29 cs (0, 0) _ hg Tryz.underlying29 rfl (by rw [hs]; kernel_rfl)
  have hr2 : (loadVar 33 ⟨g', 0, none⟩).run Tryz.prog W = .ok v W := by simp [go_sem, hc]
  unfold results
  rw [show Tryz.f13.results = [ResultVar.cell 2 29, ResultVar.cell 3 33].toArray from rfl, List.mapM_toArray]
  simp only [Sem.run_bind, Sem.run_map, List.mapM_cons, List.mapM_nil, hp, hp', asAddr, Sem.run_pure, Result.andThen_ok, hr, hr2]
  simp
theorem parse_leaves_good {w W : World} {D : Nat} {tmps : Array Value} {T : TG} {u1 u4 u5 u6 : Value} {N : Nat} (hN : w.heap.size + 2 ≤ N) (hbel : Below w.heap.size w W) (hD : N ≤ D) (hK : W.heap[D]? = some (.deferred (some [])))
    (ht : W.heap[w.heap.size]? = some (.cells #[.string T.lang, u1, .string T.script, .string T.region, u4, u5, u6, .string T.grand] 29 (0, 0))) (he : W.heap[w.heap.size + 1]? = some (.cells #[.nilIface] 33 (0, 0)))
    (ho : OwnT W w.heap.size u1 u4 u5 u6 T.ext T.vars T.exts T.priv) (hp : tmps.getD 2 undef = .pointer (some ⟨w.heap.size, 0, none⟩)) (hp' : tmps.getD 3 undef = .pointer (some ⟨w.heap.size + 1, 0, none⟩)) :
    LeavesInM Fence.wide 3 Tryz.prog Tryz.f13 tmps (fun e W' => ParseSaid w (.good T) e W') [{ target := .fn (.func 44) #[.pointer (some ⟨w.heap.size, 0, none⟩), .pointer (some ⟨w.heap.size + 1, 0, none⟩)], args := #[] }, { target := .collected D, args := #[] }] .returning W := by
  refine ⟨by simp, .inr ⟨fun h => absurd h (by simp [Fence.wide]), _, _, 44, #[.pointer (some ⟨w.heap.size, 0, none⟩), .pointer (some ⟨w.heap.size + 1, 0, none⟩)], rfl, by simp [go_sem], fun _ _ => trivial, ?_⟩⟩
  refine catch_none.mono ?_
  rintro e u' W4 ⟨rfl, rfl, hb⟩
  have hK4 := blk_on hK hb
  have ht4 := blk_on ht hb
  have he4 := blk_on he hb
  have hgr := grownBy_putObj' W4 D (.deferred none)
  have hnc : ∀ r, some D = some r → ∃ o : Obj, W4.heap[r]? = some o ∧ o.isCells = false := fun r e => by cases e; exact ⟨_, hK4, rfl⟩
  refine ⟨by simp [settle], .inl ⟨D, _, rfl, run_takeDeferred hK4, ?_⟩⟩
  refine ⟨_, parse_results hp (grown_blk hgr hnc ht4) rfl hp' (grown_blk hgr hnc he4), ?_, u1, u4, u5, u6, rfl, ?_⟩
  · exact (below_step hbel hb).grown hgr (below_step hbel hb).size (fun k hk => by cases hk; omega)
  · exact (ho.below hb).other hgr hnc
theorem parse_leaves_bad {w W : World} {D B : Nat} {tmps : Array Value} {k a : Int} {s : ByteArray} {N : Nat} (hN : w.heap.size + 2 ≤ N) (hbel : Below w.heap.size w W) (hD : N ≤ D) (hK : W.heap[D]? = some (.deferred (some [])))
    (ht : W.heap[w.heap.size]? = some (.cells zTag 29 (0, 0))) (he : W.heap[w.heap.size + 1]? = some (.cells #[.nilIface] 33 (0, 0)))
    (hF : FaultAt W (B, a, s) (.iface 49 (.int .i64 k))) (hB : N ≤ B) (hp : tmps.getD 2 undef = .pointer (some ⟨w.heap.size, 0, none⟩)) (hp' : tmps.getD 3 undef = .pointer (some ⟨w.heap.size + 1, 0, none⟩)) :
    LeavesInM Fence.wide 3 Tryz.prog Tryz.f13 tmps (fun e W' => ParseSaid w (.bad k a s) e W') [{ target := .fn (.func 44) #[.pointer (some ⟨w.heap.size, 0, none⟩), .pointer (some ⟨w.heap.size + 1, 0, none⟩)], args := #[] }, { target := .collected D, args := #[] }] (.panicking [{ v := .iface 77 (.agg #[.iface 93 (.pointer (some ⟨B, 0, none⟩))]), recovered := false }]) W := by
  refine ⟨by simp, .inr ⟨fun h => absurd h (by simp [Fence.wide]), _, _, 44, #[.pointer (some ⟨w.heap.size, 0, none⟩), .pointer (some ⟨w.heap.size + 1, 0, none⟩)], rfl, by simp [go_sem], fun _ _ => trivial, ?_⟩⟩
  refine (catch_bad (.pointer (some ⟨B, 0, none⟩)) (by omega) ht he).mono ?_
  rintro e u' W4 ⟨rfl, rfl, hC⟩
  have hDl := (Array.getElem?_eq_some_iff.1 hK).1
  have hBl : B < W.heap.size := by
    have := World.block_lt_of_cell? W _ hF.at_
    exact this
  have hK4 : W4.heap[D]? = some (.deferred (some [])) := (hC.keep D hDl (by omega) (by omega)).trans hK
  have hgr := grownBy_putObj' W4 D (.deferred none)
  have hnc : ∀ r, some D = some r → ∃ o : Obj, W4.heap[r]? = some o ∧ o.isCells = false := fun r e => by cases e; exact ⟨_, hK4, rfl⟩
  have hBD : B ≠ D := fun e => by
    have := hF.at_
    unfold World.cell? at this
    dsimp only at this
    rw [e, hK] at this
    cases this
  refine ⟨by simp [settle], .inl ⟨D, _, rfl, run_takeDeferred hK4, ?_⟩⟩
  refine ⟨_, parse_results hp (grown_blk hgr hnc hC.t) rfl hp' (grown_blk hgr hnc hC.e), ?_, B, rfl, ?_, by omega⟩
  · have hb4 : Below w.heap.size w W4 := hbel.trans (hC.bel w.heap.size (Nat.le_refl _) (by omega) hbel.size)
    exact hb4.grown hgr hb4.size (fun k hk => by cases hk; omega)
  · refine faultAt_on hF ?_
    have h1 : (W4.putObj D (.deferred none)).heap[B]? = W4.heap[B]? := World.putObj_heap_other hBD
    exact h1.trans (hC.keep B hBl (by omega) (by omega))
def pa8_T : Bool × List (List Nat × List Nat) := (true, [([], []), ([], []), ([1], [1]), ([2], [2]), ([3], [3]), ([], []), ([], []), ([6], [6]), ([5, 7], [5, 7]), ([8], [8]), ([4, 9, 7], [4, 9]), ([0, 0, 1, 2, 3, 4, 5, 6, 7, 8, 9, 10], [0]), ([11, 0, 1, 2, 3, 4, 5, 6, 7, 8, 9, 10], [11]), ([12, 10, 10, 0, 1, 2, 3, 4, 5, 6, 7, 8, 9, 10], [10, 12])])
def pa8_B : List Nat := [0, 0, 2, 6, 14, 0, 0, 64, 224, 480, 1022, 2047, 4095, 8191]
theorem pa8_tab : rtab .any (opsOf Tryz.f13 8) = pa8_T := by kernel_rfl
theorem pa8_bits : waitsOk pa8_T.2 pa8_B = true := by kernel_rfl
set_option maxRecDepth 100000 in
set_option maxHeartbeats 8000000 in
theorem Parse_plain (s : ByteArray) (hs : s.size ≤ 900000) (w : World) (hN : NamesIn w) (hg : isGrand s = false) :
    Calls Tryz.prog 13 #[.string s] w fun e W' => ParseSaid w (allR (s.size : Int) (piecesOf s)) e W' := by
  refine (callsIn_wide (n := 3)).1 ?_
  have hmf : ∀ (fn : Fn) (first cap : Array Value) (w : World), (Instr.makeFunc fn first cap).run Tryz.prog w = .ok (.func fn first cap) w := fun _ _ _ _ => rfl
  have hA0 := below_alloc (below_alloc (Below.refl w.heap.size w) (.cells zTag 29)) (.cells #[.nilIface] 33)
  have HF := Lib.hid (Find_calls s (by omega) _ (hN.on hA0))
  have HGF := Lib.hid hg
  have HS := Lib.hid hs
  have HA0 := Lib.hid hA0
  clear hN hg hs hA0
  refine callsIn_of_wp_marks Tryz.func13 rfl trivial ?_ rfl
  simp only [Tryz.ntmps13, List.size_toArray, List.length_cons, List.length_nil, Nat.reduceAdd, Nat.reduceSub, Array.replicate_succ, Array.replicate_zero, List.push_toArray, List.append_toArray, List.nil_append, List.cons_append]
  gi_wp2_with (first | (refine ⟨trivial, ?_⟩; gi_at_call 41; refine (callsIn_wide.2 HF.out).mono ?_; unfold FindSaid; rw [HGF.out]; rintro e w1 ⟨fi, rfl, hb⟩; have HB1 := Lib.hid hb; clear hb) | (refine ⟨trivial, ?_⟩; gi_at_call 43; refine (each_in Fence.wide (3 - 1) trivial rfl _ _).mono ?_; rintro e w' ⟨rfl, rfl⟩))
  have hB1 := below_step HA0.out HB1.out
  have hN2 : w.heap.size + 2 ≤ w1.heap.size := by have := HB1.out.size; simpa using this
  have ht1 := blk_on (blk_on (new_blk w (.cells zTag 29)) (below_alloc (Below.refl _ _) (.cells #[.nilIface] 33))) HB1.out
  have he1 := blk_on (new_blk (w.alloc (.cells zTag 29)) (.cells #[.nilIface] 33)) HB1.out
  rw [World.size_alloc] at he1
  have PS := Lib.hid (show PaAt w w1.heap.size (s.size : Int) (((w1.alloc (.cells #[.slice none 0 0, .int .i64 (s.size : Int), .string ⟨#[]⟩, .slice none 0 0, .string ⟨#[]⟩, .string ⟨#[]⟩, .slice none 0 0, .slice none 0 0, .slice none 0 0, .string ⟨#[]⟩] 70)).alloc (.cells #[.pointer (some ⟨w1.heap.size, 0, none⟩)] 67)).alloc (.cells #[.string s] 9)) [] from by
    have h3 := below_alloc (below_alloc (below_alloc (Below.refl w1.heap.size w1) (.cells #[.slice none 0 0, .int .i64 (s.size : Int), .string ⟨#[]⟩, .slice none 0 0, .string ⟨#[]⟩, .string ⟨#[]⟩, .slice none 0 0, .slice none 0 0, .slice none 0 0, .string ⟨#[]⟩] 70)) (.cells #[.pointer (some ⟨w1.heap.size, 0, none⟩)] 67)) (.cells #[.string s] 9)
    refine ⟨below_step hB1 h3, blk_on ht1 h3, blk_on he1 h3, ?_, ⟨none, 0, ?_, Kd.R_nil _ _ _ _ _⟩, by simp⟩
    · have := blk_on (new_blk (w1.alloc (.cells #[.slice none 0 0, .int .i64 (s.size : Int), .string ⟨#[]⟩, .slice none 0 0, .string ⟨#[]⟩, .string ⟨#[]⟩, .slice none 0 0, .slice none 0 0, .slice none 0 0, .string ⟨#[]⟩] 70)) (.cells #[.pointer (some ⟨w1.heap.size, 0, none⟩)] 67)) (below_alloc (Below.refl _ _) (.cells #[.string s] 9))
      rwa [World.size_alloc] at this
    · exact blk_on (blk_on (new_blk w1 _) (below_alloc (Below.refl _ _) (.cells #[.pointer (some ⟨w1.heap.size, 0, none⟩)] 67))) (below_alloc (Below.refl _ _) (.cells #[.string s] 9)))
  have bN := Boxed.new ((w1.alloc (.cells #[.slice none 0 0, .int .i64 (s.size : Int), .string ⟨#[]⟩, .slice none 0 0, .string ⟨#[]⟩, .string ⟨#[]⟩, .slice none 0 0, .slice none 0 0, .slice none 0 0, .string ⟨#[]⟩] 70)).alloc (.cells #[.pointer (some ⟨w1.heap.size, 0, none⟩)] 67)) 9 (.string s)
  rw [World.size_alloc, World.size_alloc] at bN
  have hsz : (((w1.alloc (.cells #[.slice none 0 0, .int .i64 (s.size : Int), .string ⟨#[]⟩, .slice none 0 0, .string ⟨#[]⟩, .string ⟨#[]⟩, .slice none 0 0, .slice none 0 0, .slice none 0 0, .string ⟨#[]⟩] 70)).alloc (.cells #[.pointer (some ⟨w1.heap.size, 0, none⟩)] 67)).alloc (.cells #[.string s] 9)).heap.size = w1.heap.size + 3 := by simp
  have HS1 := HS.out
  obtain ⟨N, hNN⟩ : ∃ N, N = w1.heap.size := ⟨_, rfl⟩
  rw [← hNN] at PS bN hsz hN2 ⊢
  have HNN := Lib.hid hNN
  clear hNN
  generalize (((w1.alloc (.cells #[.slice none 0 0, .int .i64 (s.size : Int), .string ⟨#[]⟩, .slice none 0 0, .string ⟨#[]⟩, .string ⟨#[]⟩, .slice none 0 0, .slice none 0 0, .slice none 0 0, .string ⟨#[]⟩] 70)).alloc (.cells #[.pointer (some ⟨N, 0, none⟩)] 67)).alloc (.cells #[.string s] 9)) = WL at *
  have HN2 := Lib.hid hN2
  have HSZ := Lib.hid hsz
  clear ht1 he1 hB1
  refine wpIn_rangeFunc_ownG (F := Fence.wide) rfl (by decide) (gf := 74) (lb := #[.pointer (some ⟨N + 1 + 1, 0, none⟩)]) rfl trivial (enters_of Tryz.func74 (by kernel_rfl) rfl)
    (each_stops (3 - 1) (by decide) (N + 1 + 1) s (by omega) _ (by omega) bN.cell) KeepsCell.trans keepsCell_b (Below.refl _ _) (fun _ => rfl)
    (fun (pre : List (Pc s)) W => PaAt w N (s.size : Int) W (pre.map (fun x => mkP x.1)))
    (fun _ _ _ => False)
    (PaAt.own _ (by omega) (fun (pre : List (Pc s)) => pre.map (fun x => mkP x.1))) (fun _ _ _ _ _ hs _ _ => hs)
    PS.out
    (fun (x : Pc s) => { tmps := #[.string s, undef, .pointer (some ⟨w.heap.size, 0, none⟩), .pointer (some ⟨w.heap.size + 1, 0, none⟩), .int .i64 fi, .bool false, .pointer (some ⟨N + 1, 0, none⟩), .int .i64 (x.1.1 : Int), .string x.1.2, .tuple #[.int .i64 fi, .bool false], .string s, .tuple #[.int .i64 fi, .bool false], .int .i64 fi, .bool false, .bool false, undef, undef, undef, .string s, .int .i64 (s.size : Int), .agg #[.slice none 0 0, .int .i64 (s.size : Int), .string ⟨#[]⟩, .slice none 0 0, .string ⟨#[]⟩, .string ⟨#[]⟩, .slice none 0 0, .slice none 0 0, .slice none 0 0, .string ⟨#[]⟩], .pointer (some ⟨N, 0, none⟩), .string s, .func (.func 74) #[] #[.pointer (some ⟨N + 1 + 1, 0, none⟩)], .int .i64 (x.1.1 : Int), .string x.1.2, undef, undef, undef, undef, undef, undef, undef, undef, undef, undef, undef, undef, undef, undef, undef, undef, undef, undef, undef, undef], defers := [] }) ?assign ?body ?done ?stop
  case assign =>
    intro l x W K hK
    gi_wp2
    exact hK
  case body =>
    rintro l pre x W hI hlt
    have hel := eachB_len s
    obtain ⟨xs, hxs⟩ : ∃ xs, xs = pre.map (fun x => mkP x.1) := ⟨_, rfl⟩
    have hpl : xs.length = pre.length := by rw [hxs, List.length_map]
    have hxl : xs.length ≤ 1000000 := by omega
    have hnx : (pre ++ [x]).map (fun x => mkP x.1) = xs ++ [mkP x.1] := by rw [List.map_append, ← hxs]; rfl
    rw [← hxs] at hI
    obtain ⟨A, c, h1, h2⟩ := hI.row
    have hxsz : x.1.2.size ≤ 140737488355328 := by
      have := eachB_size s x.1 x.2
      omega
    obtain ⟨y, hy⟩ : ∃ y, mk (low (bl x.1.2)) = y := ⟨_, rfl⟩
    obtain ⟨zs, hz⟩ : ∃ zs, zs = xs ++ [(⟨(x.1.1 : Int), y⟩ : PieceR)] := ⟨_, rfl⟩
    have HR := Lib.hid hI
    have H1 := Lib.hid h1
    have H2 := Lib.hid h2
    have HXL := Lib.hid hxl
    have HXS := Lib.hid hxsz
    have HY := Lib.hid hy
    have HL := Lib.hid hz
    have HNX := Lib.hid (show (pre ++ [x]).map (fun x => mkP x.1) = zs by rw [hnx, hz, ← hy]; rfl)
    clear hI h1 h2 hxl hxsz hy hz hnx hpl hel hlt hxs
    gi_wp2
    refine startIn_ (n := 14) (S := fun w' => w'.cell? ⟨N + 1, 0, none⟩ = some (.pointer (some ⟨N, 0, none⟩)) ∧ w'.cell? ⟨N, 0, none⟩ = some (.slice A xs.length c)) (ds := [13]) #[false, false, false, false, false, false, false, false, false, false, false, false, false, false] (by kernel_rfl) rfl rfl (show World.cell? _ ⟨N + 1, 0, none⟩ = some _ ∧ World.cell? _ ⟨N, 0, none⟩ = some _ from ⟨(blk_cell HR.out.rb 0).trans rfl, (blk_cell H1.out 0).trans rfl⟩) (by kernel_rfl) (fun hHeld => ?_); refine with_tabW pa8_tab pa8_bits (fun HT_ HW_ => ?_)
    refine tk_ (i := 0) (N := some 26) HT_ HW_ (bl_ 14 1) hHeld ?_ (hy := by rintro w' ⟨s0, s1⟩; go_simp; with_reducible rfl)
    refine tk_ (i := 1) (N := some 27) HT_ HW_ (bl_ 14 3) hHeld ?_ (hy := by rintro w' ⟨s0, s1⟩; go_simp; with_reducible rfl)
    refine pu_ (i := 2) (N := some 28) HT_ (bl_ 14 7) ?_
    refine pu_ (i := 3) (N := some 29) HT_ (bl_ 14 15) ?_
    refine tk_ (i := 4) (N := some 30) HT_ HW_ (bl_ 14 31) hHeld ?_ (hy := by rintro w' ⟨s0, s1⟩; go_simp; with_reducible rfl)
    refine pu_ (i := 5) (N := some 31) HT_ (bl_ 14 63) ?_
    refine pu_ (i := 6) (N := some 32) HT_ (bl_ 14 127) ?_
    refine on_ (i := 7) (N := some 33) HT_ (bl_ 14 255) rfl rfl (fun K hK => ?_)
    refine gs_ Tryz.func42 #[.string x.1.2] ?_
    refine (Lower_calls x.1.2 HXS.out W.drew).mono ?_
    rw [HY.out]
    rintro e w2 ⟨rfl, hb2⟩
    have HB2 := Lib.hid hb2
    have HG2 := Lib.hid (blk_on (w := W.drew) H1.out hb2)
    have HRB2 := Lib.hid (blk_on (w := W.drew) HR.out.rb hb2)
    have HR2 := Lib.hid (Kd.R_below (Kd.R_drew H2.out) hb2)
    clear hb2
    refine ⟨_, rfl, ?_⟩
    refine hK.out _ _ (show World.cell? _ ⟨N + 1, 0, none⟩ = some _ ∧ World.cell? _ ⟨N, 0, none⟩ = some _ from ⟨(blk_cell HRB2.out 0).trans rfl, (blk_cell HG2.out 0).trans rfl⟩) (fun hHeld => ?_)
    clear hK K
    refine nm_ (some 33) ?_
    refine pu_ (i := 8) (N := some 34) HT_ (bl_ 14 511) ?_
    refine on_ (i := 9) (N := some 35) HT_ (bl_ 14 1023) rfl rfl (fun K hK => ?_)
    refine value_ (w1 := ?_) (v := ?_) (by rfl) rfl ?_ ?_
    rotate_left 2
    · go_simp
      constructor
      · rfl
      · rfl
    refine hK.out _ _ (show World.cell? _ ⟨N + 1, 0, none⟩ = some _ ∧ World.cell? _ ⟨N, 0, none⟩ = some _ from ⟨(blk_cell (blk_on HRB2.out (below_alloc (Below.refl _ _) _)) 0).trans rfl, (blk_cell (blk_on HG2.out (below_alloc (Below.refl _ _) _)) 0).trans rfl⟩) (fun hHeld => ?_)
    clear hK K
    refine nm_ (some 35) ?_
    refine on_ (i := 10) (N := some 36) HT_ (bl_ 14 2047) rfl rfl (fun K hK => ?_)
    (refine Kd.R_append_step k75 (w0 := w2) (N + 3) (by rfl) (.tmp 30) (.tmp 35) 68 75 (.agg #[.int .i64 0, .string ⟨#[]⟩]) 24 rfl Tryz.underlying68 hinfoP rfl (by decide) (by decide) (.slice A xs.length c) xs (⟨(x.1.1 : Int), y⟩ : PieceR) [.int .i64 (x.1.1 : Int), .string y] (fun _ => True) (fun _ => False) rfl ?aX (k75_mkM _ _ _ (⟨(x.1.1 : Int), y⟩ : PieceR)) (fun _ hk => hk.elim) (fun _ _ => trivial) HR2.out (Below.refl _ _) ?aS ?aL ?_; (case aX => rfl); (case aS => exact Nat.le_trans HR.out.size HB2.out.size); (case aL => have := HXL.out; omega); intro x_ w3 hr_ hb_ hg_ hat_; rw [← HL.out] at hr_; obtain ⟨A', d', hx_⟩ := Kd.R_slice hr_; subst hx_; have HR3 := Lib.hid hr_; have HB3 := Lib.hid hb_; have HG3 := Lib.hid hg_; have HN3 := Lib.hid (blk_grown HG2.out hg_ (Kd.R_ne HR2.out HG2.out (by decide))); have HRB3 := Lib.hid (blk_grown HRB2.out hg_ (Kd.R_ne HR2.out HRB2.out (by decide))); have z0 : World.cell? _ ⟨N, 0, none⟩ = some _ := (blk_cell HN3.out 0).trans rfl; have f0 := blk_frozen HN3.out 0; clear hr_ hb_ hg_ hat_)
    refine hK.out _ _ ⟨(blk_cell HRB3.out 0).trans rfl, z0⟩ (fun hHeld => ?_)
    clear hK K
    refine nm_ (some 36) ?_
    refine pu_ (i := 11) (N := some 37) HT_ (bl_ 14 4095) ?_
    refine pu_ (i := 12) (N := some 38) HT_ (bl_ 14 8191) ?_
    refine last_ (i := 13) (N := none) #[true, true, true, true, true, true, true, true, true, true, true, true, true, true] rfl rfl (one_of HT_.out (by kernel_rfl)) (by decide) (fun K hK => ?_)
    refine skip_ (w1 := ?_) (by rfl) rfl ?_ ?_
    rotate_left
    · go_simp
      rfl
    refine hK.out _ _ ?_
    clear hK K
    refine done_ (done_of HT_.out (by kernel_rfl)) ?_
    have hI2 : PaAt w N (s.size : Int) (w3.setCell ⟨N, 0, none⟩ (.slice A' zs.length d')) zs := by
      have hk0 : Below w.heap.size W w3 := (below_lower (below_step (below_drew (Below.refl W.heap.size W)) HB2.out) HR.out.bel.size).trans (below_lower HB3.out (by have := HN2.out; omega))
      have b0 : ∀ k (cs : Array Value) (t : TypeId), W.heap[k]? = some (Obj.cells cs t (0, 0)) → t ≠ 75 → w3.heap[k]? = some (Obj.cells cs t (0, 0)) := fun k cs t hk ht =>
        blk_grown (blk_on (w := W.drew) hk HB2.out) HG3.out (Kd.R_ne HR2.out (blk_on (w := W.drew) hk HB2.out) (fun e => ht e.symm))
      refine ⟨(HR.out.bel.trans hk0).setCell (p := ⟨N, 0, none⟩) (by have := HN2.out; show w.heap.size ≤ N; omega) _, blk_far (p := ⟨N, 0, none⟩) (b0 _ _ _ HR.out.t (by decide)) (by have := HN2.out; show w.heap.size ≠ N; omega) _, blk_far (p := ⟨N, 0, none⟩) (b0 _ _ _ HR.out.e (by decide)) (by have := HN2.out; show w.heap.size + 1 ≠ N; omega) _, blk_far (p := ⟨N, 0, none⟩) (b0 _ _ _ HR.out.rb (by decide)) (by show N + 1 ≠ N; omega) _, ⟨A', d', blk_put HN3.out 0 _ rfl, Kd.R_set HR3.out HN3.out (by decide) 0 _⟩, ?_⟩
      have := Nat.le_trans HR.out.size (Nat.le_trans HB2.out.size HB3.out.size)
      simpa [World.setCell] using this
    have hk2 : KeepsOthers W (w3.setCell ⟨N, 0, none⟩ (.slice A' zs.length d')) :=
      (keeps_below (below_step (below_drew (Below.refl W.heap.size W)) HB2.out)).trans ((keeps_grown HR2.out HG3.out).trans (KeepsOthers.setCell _ _ _))
    refine ⟨hk2.from _, ?_, by show PaAt w N (s.size : Int) _ ((pre ++ [x]).map (fun x => mkP x.1)); rw [HNX.out]; exact hI2⟩
    intro v0 h0
    have hblk : (w3.setCell ⟨N, 0, none⟩ (.slice A' zs.length d')).heap[N + 1 + 1]? = W.heap[N + 1 + 1]? := by
      rw [Below.heap_setCell w3 ⟨N, 0, none⟩ _ (N + 1 + 1) (by show N + 1 + 1 ≠ N; omega)]
      rw [HB3.out.block (N + 1 + 1) (by omega)]
      exact HB2.out.block (N + 1 + 1) (by have := HR.out.size; show N + 1 + 1 < W.heap.size; omega)
    unfold World.cell? at h0 ⊢
    rw [hblk]; exact h0
  case done =>
    rintro D ys W hD hys hI hK
    have hps : ys.map (fun x : Pc s => mkP x.1) = piecesOf s := by
      have h0 : ys.map (fun x : Pc s => mkP x.1) = (ys.map (·.1)).map mkP := by rw [List.map_map]; rfl
      rw [h0]
      unfold piecesOf
      rw [show ys.map (·.1) = eachB s from hys]
    have hI' : PaAt w N (s.size : Int) W (piecesOf s) := by rw [← hps]; exact hI
    have hlen : (piecesOf s).length ≤ 1000000 := by
      unfold piecesOf
      rw [List.length_map]
      have := eachB_len s
      omega
    obtain ⟨A, c, h1, h2⟩ := hI'.row
    have hrd : Rd w W W N (piecesOf s) (s.size : Int) T0 nilV nilV nilV nilV :=
      ⟨by omega, by have := hI'.size; omega, Nat.le_refl _, hI'.bel, ⟨A, c, h1, (Kd.R_reads' h2).2.1, fun W' hk => (Kd.R_reads' (Kd.R_keep (Kd.R_bound h2) hk (fun k hk => by have := hk.2.1; omega))).2.2⟩, ⟨Kd.R_nil _ _ _ _ _, Kd.R_nil _ _ _ _ _, Kd.S_nil _ _ _ _ _, Kd.R_nil _ _ _ _ _⟩, KeepBut.refl W N none⟩
    have HI := Lib.hid hI'
    have HK := Lib.hid hK
    have HD := Lib.hid (show N + 3 ≤ D by omega)
    have HRD := Lib.hid hrd
    have HLN := Lib.hid hlen
    have zb : W.cell? ⟨N + 1, 0, none⟩ = some (.pointer (some ⟨N, 0, none⟩)) := (blk_cell HI.out.rb 0).trans rfl
    clear hps hI hI' h1 h2 hrd hys hlen hK hD bN hsz hN2 PS
    cases hr : allR (s.size : Int) (piecesOf s) with
    | bad k a what =>
      have HR := Lib.hid hr
      clear hr
      gi_wp2_with (refine ⟨trivial, ?_⟩; gi_at_call 45; refine (callsIn_wide.2 (all_bad HRD.out HLN.out HR.out)).mono ?_; rintro e W2 ⟨⟨B, rfl, hF, hB⟩, hb⟩; have HF := Lib.hid hF; have HB := Lib.hid hB; have HBW := Lib.hid hb; clear hF hB hb)
      have hk := HBW.out.2
      have h3 := HI.out.size
      have h4 := HN2.out
      have h5 := HD.out
      have hDl := (Array.getElem?_eq_some_iff.1 HK.out).1
      show LeavesInM Fence.wide 3 _ _ _ (fun e W' => ParseSaid w (allR (s.size : Int) (piecesOf s)) e W') _ _ _
      rw [HR.out]
      exact parse_leaves_bad h4 HBW.out.1 (by omega) ((hk.2 D hDl (by omega) (by simp)).trans HK.out) ((hk.2 _ (by omega) (by omega) (by simp)).trans HI.out.t) ((hk.2 _ (by omega) (by omega) (by simp)).trans HI.out.e) HF.out (by have := HB.out; omega) rfl rfl
    | good T =>
      have HR := Lib.hid hr
      clear hr
      gi_wp2_with (refine ⟨trivial, ?_⟩; gi_at_call 45; refine (callsIn_wide.2 (all_good HRD.out HLN.out HR.out)).mono ?_; rintro e W2 ⟨u1, u4, u5, u6, rfl, hR⟩; obtain ⟨A1, c1, e1⟩ := Kd.R_slice hR.own.1; obtain ⟨A4, c4, e4⟩ := Kd.R_slice hR.own.2.1; obtain ⟨A5, c5, e5⟩ := Kd.S_slice hR.own.2.2.1; obtain ⟨A6, c6, e6⟩ := Kd.R_slice hR.own.2.2.2; subst e1 e4 e5 e6; have HR2 := Lib.hid hR; have hk := hR.keep; have h3 := HI.out.size; have h4 := HN2.out; have hDl := (Array.getElem?_eq_some_iff.1 HK.out).1; have HT2 := Lib.hid ((hk.2 _ (by omega) (by omega) (by simp)).trans HI.out.t); have HE2 := Lib.hid ((hk.2 _ (by omega) (by omega) (by simp)).trans HI.out.e); have HRB2 := Lib.hid ((hk.2 _ (by omega) (by omega) (by simp)).trans HI.out.rb); have HK2 := Lib.hid ((hk.2 D hDl (by have := HD.out; omega) (by simp)).trans HK.out); have zb2 : World.cell? W2 ⟨N + 1, 0, none⟩ = some (.pointer (some ⟨N, 0, none⟩)) := (blk_cell HRB2.out 0).trans rfl; obtain ⟨Z1, z2, Z3, -, -⟩ := hR.cells; have y2 : World.cell? W2 ⟨N, 2, none⟩ = some _ := (blk_cell Z3 2).trans rfl; have y3 : World.cell? W2 ⟨N, 3, none⟩ = some _ := (blk_cell Z3 3).trans rfl; have y4 : World.cell? W2 ⟨N, 4, none⟩ = some _ := (blk_cell Z3 4).trans rfl; have y5 : World.cell? W2 ⟨N, 5, none⟩ = some _ := (blk_cell Z3 5).trans rfl; have y6 : World.cell? W2 ⟨N, 6, none⟩ = some _ := (blk_cell Z3 6).trans rfl; have y7 : World.cell? W2 ⟨N, 7, none⟩ = some _ := (blk_cell Z3 7).trans rfl; have y8 : World.cell? W2 ⟨N, 8, none⟩ = some _ := (blk_cell Z3 8).trans rfl; have y9 : World.cell? W2 ⟨N, 9, none⟩ = some _ := (blk_cell Z3 9).trans rfl; obtain ⟨⟨p0, p1, p2, p3, p4, p5, p6, p7⟩, f0, f1, f2, f3, f4, f5, f6, f7⟩ := cells8q HT2.out; have pe : World.cell? W2 ⟨w.heap.size + 1, 0, none⟩ = some .nilIface := (blk_cell HE2.out 0).trans rfl; have fe := blk_frozen HE2.out 0; clear hR hk h3 h4 hDl Z3)
      have hb2 : Below w.heap.size w W2 := HR2.out.below
      have ho2 := HR2.out.own
      show LeavesInM Fence.wide 3 _ _ _ (fun e W' => ParseSaid w (allR (s.size : Int) (piecesOf s)) e W') _ _ _
      rw [HR.out]
      have n1 : w.heap.size ≠ w.heap.size + 1 := by omega
      have he3 := (keep8 (k := w.heap.size + 1) (g := w.heap.size) (by omega) W2 (.string T.lang) (.slice A1 T.ext.length c1) (.string T.script) (.string T.region) (.slice A4 T.vars.length c4) (.slice A5 T.exts.length c5) (.slice A6 T.priv.length c6) (.string T.grand)).trans HE2.out
      have hk3 := (keep8 (k := D) (g := w.heap.size) (by have := HD.out; have := HN2.out; omega) W2 (.string T.lang) (.slice A1 T.ext.length c1) (.string T.script) (.string T.region) (.slice A4 T.vars.length c4) (.slice A5 T.exts.length c5) (.slice A6 T.priv.length c6) (.string T.grand)).trans HK2.out
      have ht3 := put8 HT2.out (.string T.lang) (.slice A1 T.ext.length c1) (.string T.script) (.string T.region) (.slice A4 T.vars.length c4) (.slice A5 T.exts.length c5) (.slice A6 T.priv.length c6) (.string T.grand)
      have ho3 := (ho2.lower HI.out.bel.size).set8 HT2.out (.string T.lang) (.slice A1 T.ext.length c1) (.string T.script) (.string T.region) (.slice A4 T.vars.length c4) (.slice A5 T.exts.length c5) (.slice A6 T.priv.length c6) (.string T.grand)
      have hb3 := below8 hb2 (Nat.le_refl w.heap.size) (.string T.lang) (.slice A1 T.ext.length c1) (.string T.script) (.string T.region) (.slice A4 T.vars.length c4) (.slice A5 T.exts.length c5) (.slice A6 T.priv.length c6) (.string T.grand)
      exact parse_leaves_good HN2.out (hb3.setCell (p := ⟨w.heap.size + 1, 0, none⟩) (by show w.heap.size ≤ w.heap.size + 1; omega) _) (by have := HD.out; omega) (by rw [Below.heap_setCell _ ⟨w.heap.size + 1, 0, none⟩ _ D (by have := HD.out; have := HN2.out; show D ≠ w.heap.size + 1; omega)]; exact hk3) (blk_far (p := ⟨w.heap.size + 1, 0, none⟩) ht3 n1 _) (blk_put he3 0 _ rfl) (ownT_setE ho3 he3 0 _) rfl rfl
  case stop =>
    rintro D c pre W _ _ h _
    exact h.elim
set_option maxRecDepth 100000 in
set_option maxHeartbeats 8000000 in
theorem Parse_grand (s : ByteArray) (hs : s.size ≤ 900000) (w : World) (hN : NamesIn w) (hg : isGrand s = true) :
    Calls Tryz.prog 13 #[.string s] w fun e W' => ParseSaid w (.good { T0 with grand := mk (low (bl s)) }) e W' := by
  refine (callsIn_wide (n := 3)).1 ?_
  have hA0 := below_alloc (below_alloc (Below.refl w.heap.size w) (.cells zTag 29)) (.cells #[.nilIface] 33)
  have HF := Lib.hid (Find_calls s (by omega) _ (hN.on hA0))
  have HGF := Lib.hid hg
  have HS := Lib.hid hs
  have HA0 := Lib.hid hA0
  have HL := Lib.hid (fun W : World => Lower_calls s (by omega) W)
  obtain ⟨y, hy⟩ : ∃ y, mk (low (bl s)) = y := ⟨_, rfl⟩
  rw [hy] at HL ⊢
  clear hN hg hs hA0 hy
  refine callsIn_of_wp_marks Tryz.func13 rfl trivial ?_ rfl
  simp only [Tryz.ntmps13, List.size_toArray, List.length_cons, List.length_nil, Nat.reduceAdd, Nat.reduceSub, Array.replicate_succ, Array.replicate_zero, List.push_toArray, List.append_toArray, List.nil_append, List.cons_append]
  gi_wp2_with (first | (refine ⟨trivial, ?_⟩; gi_at_call 41; refine (callsIn_wide.2 HF.out).mono ?_; unfold FindSaid; rw [HGF.out]; rintro e w1 ⟨fi, rfl, hb⟩; have HB1 := Lib.hid hb; clear hb) | (refine ⟨trivial, ?_⟩; gi_at_call 42; refine (callsIn_wide.2 (HL.out _)).mono ?_; rintro e W2 ⟨rfl, hb⟩; have HB2 := Lib.hid (below_step HB1.out hb); have HT2 := Lib.hid (blk_on (blk_on (blk_on (new_blk w (.cells zTag 29)) (below_alloc (Below.refl _ _) (.cells #[.nilIface] 33))) HB1.out) hb); have HE2 := Lib.hid (show W2.heap[w.heap.size + 1]? = some (.cells #[.nilIface] 33 (0, 0)) by have := blk_on (blk_on (new_blk (w.alloc (.cells zTag 29)) (.cells #[.nilIface] 33)) HB1.out) hb; rwa [World.size_alloc] at this); obtain ⟨⟨p0, p1, p2, p3, p4, p5, p6, p7⟩, f0, f1, f2, f3, f4, f5, f6, f7⟩ := cells8q HT2.out; have pe : World.cell? W2 ⟨w.heap.size + 1, 0, none⟩ = some .nilIface := (blk_cell HE2.out 0).trans rfl; have fe := blk_frozen HE2.out 0; clear hb))
  have hb2 : Below w.heap.size w W2 := below_step HA0.out HB2.out
  have n1 : w.heap.size ≠ w.heap.size + 1 := by omega
  have he3 := (keep8 (k := w.heap.size + 1) (g := w.heap.size) (by omega) W2 (.string ⟨#[]⟩) (.slice none 0 0) (.string ⟨#[]⟩) (.string ⟨#[]⟩) (.slice none 0 0) (.slice none 0 0) (.slice none 0 0) (.string y)).trans HE2.out
  have ht3 := put8 HT2.out (.string ⟨#[]⟩) (.slice none 0 0) (.string ⟨#[]⟩) (.string ⟨#[]⟩) (.slice none 0 0) (.slice none 0 0) (.slice none 0 0) (.string y)
  have hb3 := below8 hb2 (Nat.le_refl w.heap.size) (.string ⟨#[]⟩) (.slice none 0 0) (.string ⟨#[]⟩) (.string ⟨#[]⟩) (.slice none 0 0) (.slice none 0 0) (.slice none 0 0) (.string y)
  refine ⟨_, parse_results rfl (blk_far (p := ⟨w.heap.size + 1, 0, none⟩) ht3 n1 _) rfl rfl (blk_put he3 0 _ rfl), hb3.setCell (p := ⟨w.heap.size + 1, 0, none⟩) (by show w.heap.size ≤ w.heap.size + 1; omega) _, _, _, _, _, rfl, ⟨Kd.R_nil _ _ _ _ _, Kd.R_nil _ _ _ _ _, Kd.S_nil _ _ _ _ _, Kd.R_nil _ _ _ _ _⟩⟩
theorem Parse_calls (s : ByteArray) (hs : s.size ≤ 900000) (w : World) (hN : NamesIn w) : Calls Tryz.prog 13 #[.string s] w fun e W' => ParseSaid w (parseR s) e W' := by
  unfold parseR
  by_cases c : isGrand s = true
  · rw [if_pos c]; exact Parse_grand s hs w hN c
  · rw [if_neg c]; exact Parse_plain s hs w hN (by simpa using c)
end Go.Proofs.YtejnfbfikadpdaaGreatDoor.P
