/- The law FaultDeep, walked by hand. -/
import Derived.Test.YtlngefnimnjkkaaDoorWalkAwake
import Derived.Test.YtlngefnimnjkkaaDoorPx2
import Derived.Deep.RegionHeld3
namespace Go.Proofs.YtlngefnimnjkkaaDoor.P
open Go.RowKit Go.Shelf Go.Proofs.YtlngefnimnjkkaaDoorW.PrintWords
attribute [local go_sem] Oper.semAt_some
set_option linter.unusedVariables false
set_option linter.unusedSimpArgs false
def isoglosslaw01_FaultDeep.f (k : Nat) (a0 a1 a2 : Int) : Option Bool :=
  (isoglosslaw01_row.f k [] a0).bind fun p => if p.2 = 0 then none else some true
/-- A chain of faults of one place. -/
structure DeepE (x : E) (kd p : Int) (m : Nat) : Prop where
  ne : x ≠ .nil
  kind : x.kind = some kd
  len : x.items.length = m
  all : ∀ y ∈ x.items, y.2.1 = p
theorem DeepE.told {x : E} {kd p : Int} {m : Nat} (h : DeepE x kd p m) : x.told = kd := by
  have := h.kind
  cases x with
  | nil => exact absurd rfl h.ne
  | errno n => exact congrArg (·.getD 1) this
  | fault => exact congrArg (·.getD 1) this
  | strange => exact congrArg (·.getD 1) this
theorem DeepE.wrap {x : E} {kd p : Int} {m : Nat} (h : DeepE x kd p m) (B : Nat) (s : ByteArray) : DeepE (.fault B p s x) kd p (m + 1) :=
  ⟨(by intro h; cases h), h.kind, congrArg Nat.succ h.len, fun y hy => by
    rcases List.mem_cons.1 hy with rfl | hy
    · rfl
    · exact h.all y hy⟩
theorem DeepE.first (B : Nat) (p : Int) (s : ByteArray) (kd : Int) : DeepE (.fault B p s (.errno kd)) kd p 1 :=
  ⟨(by intro h; cases h), rfl, rfl, fun y hy => by
    rcases List.mem_cons.1 hy with rfl | hy
    · rfl
    · cases hy⟩
theorem totalFrom_all (p : Int) (hp : -1000 ≤ p ∧ p ≤ 1000) : ∀ (l : List (Nat × Int × ByteArray)) (s : Int) (n : Nat), (∀ y ∈ l, y.2.1 = p) → n + l.length ≤ 100 → s = (n : Int) * p → totalFrom s l = ((n + l.length : Nat) : Int) * p
  | [], s, n, _, _, hs => by rw [hs]; rfl
  | x :: l, s, n, hl, hn, hs => by
    have hx : x.2.1 = p := hl x List.mem_cons_self
    have hn' : n + 1 + l.length ≤ 100 := by rw [List.length_cons] at hn; omega
    have hb : s + p = ((n + 1 : Nat) : Int) * p := by rw [hs]; push_cast; rw [Int.add_mul, Int.one_mul]
    have hbd : -100000 ≤ ((n + 1 : Nat) : Int) * p ∧ ((n + 1 : Nat) : Int) * p ≤ 100000 := by
      have h1 : ((n + 1 : Nat) : Int) ≤ 100 := by omega
      have h0 : 0 ≤ ((n + 1 : Nat) : Int) := by omega
      constructor
      · have := Int.mul_le_mul_of_nonneg_left hp.1 h0; omega
      · have := Int.mul_le_mul_of_nonneg_left hp.2 h0; omega
    have hw : IntKind.i64.wrap (s + x.2.1) = ((n + 1 : Nat) : Int) * p := by
      rw [hx, hb]
      exact IntWalk.i64_in _ (by omega)
    show totalFrom (IntKind.i64.wrap (s + x.2.1)) l = _
    rw [totalFrom_all p hp l _ (n + 1) (fun y hy => hl y (List.mem_cons_of_mem _ hy)) hn' hw]
    congr 2
    rw [List.length_cons]; omega
theorem DeepE.place {x : E} {kd p : Int} {m : Nat} (h : DeepE x kd p (m + 1)) : placeOf x.items = p := by
  have h1 := h.len
  have h2 := h.all
  cases hx : x.items with
  | nil => rw [hx] at h1; cases h1
  | cons y l => exact h2 y (by rw [hx]; exact List.mem_cons_self)
set_option maxRecDepth 100000 in
set_option maxHeartbeats 8000000 in
theorem isoglosslaw01_FaultDeep.calls (k : Nat) (a0 a1 a2 : Int) (r0 : Bool) (w : World) (hg : w.cell? ⟨0, 0, none⟩ = some errGV) (h : isoglosslaw01_FaultDeep.f k a0 a1 a2 = some r0) (hrt : r0 = true) :
    Calls Tryd.prog 3 #[.int .i64 a0, .int .i64 a1, .int .i64 a2] w fun e w' => e = .returned (.bool r0) ∧ Below w.heap.size w w' := by
  unfold isoglosslaw01_FaultDeep.f at h
  obtain ⟨⟨r1, r2⟩, e1, h1⟩ := Option.bind_eq_some_iff.1 h
  clear h
  have hr2 : ¬ r2 = 0 := by
    intro c
    simp only [c, ↓reduceIte] at h1
    cases h1
  clear h1
  subst hrt
  have hq1 : -61 < Int.tmod a1 61 ∧ Int.tmod a1 61 < 61 := by
    have := Int.tmod_lt_of_pos a1 (show (0 : Int) < 61 by decide)
    have h2 := Int.tmod_lt_of_pos (-a1) (show (0 : Int) < 61 by decide)
    rw [Int.neg_tmod] at h2; omega
  have hq2 : -1001 < Int.tmod a2 1001 ∧ Int.tmod a2 1001 < 1001 := by
    have := Int.tmod_lt_of_pos a2 (show (0 : Int) < 1001 by decide)
    have h2 := Int.tmod_lt_of_pos (-a2) (show (0 : Int) < 1001 by decide)
    rw [Int.neg_tmod] at h2; omega
  have hw1 : IntKind.i64.wrap (Int.tmod a1 61 + 61) = Int.tmod a1 61 + 61 := IntWalk.i64_in _ (by omega)
  have hw1' : wrap64 (Int.tmod a1 61 + 61) = Int.tmod a1 61 + 61 := by unfold wrap64; omega
  obtain ⟨n, hn⟩ : ∃ n : Nat, Int.tmod (Int.tmod a1 61 + 61) 61 = n := ⟨(Int.tmod (Int.tmod a1 61 + 61) 61).toNat, by
    have := Int.tmod_nonneg (a := Int.tmod a1 61 + 61) 61 (by omega); omega⟩
  have hn60 : n ≤ 60 := by
    have := Int.tmod_lt_of_pos (Int.tmod a1 61 + 61) (show (0 : Int) < 61 by decide); omega
  obtain ⟨p, hp⟩ : ∃ p : Int, Int.tmod a2 1001 = p := ⟨_, rfl⟩
  rw [hp] at hq2
  have hp1 : -1000 ≤ p ∧ p ≤ 1000 := by omega
  clear hq2
  have E1 := Lib.hid e1
  have HG := Lib.hid hg
  have HQ := Lib.hid hq1
  have HN6 := Lib.hid hn60
  have HP := Lib.hid hp1
  clear e1 hg hq1 hn60 hp1
  go_enter Tryd.func3, Tryd.ntmps3
  go_wp2_with (first
    | (go_at_call 9; refine (isoglosslaw01_awake.calls _ HG.out).mono ?_; rintro e w2 ⟨rfl, hb⟩; have B2 := Lib.hid hb; have HG2 := Lib.hid (pw_cell_below hb HG.out); clear hb HG)
    | (go_at_call 10; refine (isoglosslaw01_row.calls k none 0 [] _ _ _ _ (by exact Kd.C_nil _ _) (Nat.le_refl _) E1.out).mono ?_; rintro e w3 ⟨v3, rfl, ho3, hb3⟩; obtain ⟨A3, c3, rfl⟩ := Kd.R_slice ho3; have B3 := Lib.hid (below_step B2.out hb3); have HG3 := Lib.hid (pw_cell_below hb3 HG2.out); clear hb3 B2 HG2 ho3)
    | (go_at_call 11
       go_loud (refine (New_is r2 p ⟨#[120]⟩ _ hr2).mono ?_; rintro e w4 ⟨v4, rfl, h4, hb4⟩)
       have HC4 : Hid (w4.cell? ⟨w3.heap.size, 1, none⟩ = some (.int .i64 r2)) := Lib.hid (pw_cell_below hb4 (by rw [World.cell?_alloc_new]; rfl))
       have HG4 := Lib.hid (pw_cell_below hb4 (pw_cell_below ((Below.refl w3.heap.size w3).alloc (Nat.le_refl _) _) HG3.out))
       have B4 := Lib.hid (below_step (B3.out.alloc B3.out.size _) hb4)
       have H4 := Lib.hid h4
       have D4 : Hid (DeepE (.fault (w3.alloc (.cells #[.slice A3 r1.length c3, .int .i64 r2] 26)).heap.size p ⟨#[120]⟩ (.errno r2)) r2 p 1) := Lib.hid (DeepE.first _ _ _ _)
       clear h4 hb4 B3 HG3))
  go_loopw [11, 12] (fun v iv wr => ∃ (x : E) (i : Nat), iv = .int .i64 (i : Int) ∧ Hid (i ≤ n) ∧ Hid (DeepE x r2 p (i + 1)) ∧ Hid (E.is wr x v) ∧ Hid (wr.cell? ⟨0, 0, none⟩ = some errGV) ∧ Hid (wr.cell? ⟨w3.heap.size, 1, none⟩ = some (.int .i64 r2)) ∧ Hid (Below w.heap.size w wr)) (fun _ iv _ => n - (intOf iv).toNat)
  case atStart => exact ⟨_, 0, rfl, Lib.hid (Nat.zero_le _), D4, H4, HG4, HC4, B4⟩
  case round =>
    obtain ⟨x, i, rfl, hi, hd, hx, hg5, hc5, hb5⟩ := hrel
    have hin := hi.out
    have h60 := HN6.out
    have hw2 : wrap64 ((i : Int) + 1) = ((i + 1 : Nat) : Int) := by unfold wrap64; omega
    have HW2 := Lib.hid hw2
    by_cases hlt : i < n
    · have c0 : ((i : Int) < (n : Int)) := by omega
      have HLT := Lib.hid hlt
      clear hin h60 hlt
      go_wp2_with (go_at_call 12; refine (Wrap_is x _ p ⟨#[120]⟩ _ hx.out hd.out.ne).mono ?_; rintro e w6 ⟨v6, rfl, h6, hb6⟩)
      refine ⟨⟨_, i + 1, by rw [HW2.out], Lib.hid (Nat.succ_le_of_lt HLT.out), Lib.hid (hd.out.wrap _ _), Lib.hid h6, Lib.hid (pw_cell_below hb6 hg5.out), Lib.hid (pw_cell_below hb6 hc5.out), Lib.hid (below_step hb5.out hb6)⟩, ?_⟩
      rw [HW2.out]
      show n - ((i + 1 : Nat) : Int).toNat < n - (i : Int).toNat
      have := HLT.out
      omega
    · have c0 : ¬ ((i : Int) < (n : Int)) := by omega
      obtain rfl : i = n := by omega
      obtain ⟨m, hm⟩ : ∃ m : Nat, m = i + 1 := ⟨_, rfl⟩
      have hs1 : IntKind.i64.wrap ((i : Int) + 1) = (m : Int) := by rw [IntWalk.i64_in _ (by omega)]; omega
      have hp1 := HP.out
      have hd5 := hd.out
      rw [← hm] at hd5
      obtain ⟨T, hT⟩ : ∃ T : Int, p * (m : Int) = T := ⟨_, rfl⟩
      have hTb : -100000 ≤ T ∧ T ≤ 100000 := by
        have h1 : (m : Int) ≤ 61 := by omega
        have h0 : 0 ≤ (m : Int) := by omega
        rw [← hT, Int.mul_comm]
        constructor
        · have := Int.mul_le_mul_of_nonneg_left hp1.1 h0; omega
        · have := Int.mul_le_mul_of_nonneg_left hp1.2 h0; omega
      have hs2 : IntKind.i64.wrap (p * (m : Int)) = T := by rw [hT]; exact IntWalk.i64_in _ (by omega)
      have htot : totalFrom 0 x.items = T := by
        rw [totalFrom_all p hp1 x.items 0 0 hd5.all (by rw [hd5.len]; omega) (by rw [Int.ofNat_zero, Int.zero_mul]), hd5.len, ← hT, Int.mul_comm]
        congr 1; rw [Nat.zero_add]
      have hpl : placeOf x.items = p := by
        have h2 := hd.out
        exact h2.place
      have hwl : (whatsOf x.items).length = m := by unfold whatsOf; rw [List.length_map, hd5.len]
      have hwm : x.items.length ≤ 1000000 := by rw [hd5.len]; omega
      have KC := Lib.hid (fun (W : World) (h : E.is W x u11) (g : W.cell? ⟨0, 0, none⟩ = some errGV) => show Calls Tryd.prog 13 #[u11] W fun ev w' => ev = .returned (.int .i64 r2) ∧ Below W.heap.size W w' by
        have := Kind_any x u11 W g h
        rwa [hd5.told] at this)
      have TC := Lib.hid (fun (W : World) (h : E.is W x u11) => show Calls Tryd.prog 14 #[u11] W fun ev w' => ev = .returned (.int .i64 T) ∧ Below W.heap.size W w' by
        have := Total_calls u11 _ _ W (E.err h)
        rwa [htot] at this)
      have PC := Lib.hid (fun (W : World) (h : E.is W x u11) => show Calls Tryd.prog 16 #[u11] W fun ev w' => ev = .returned (.int .i64 p) ∧ Below W.heap.size W w' by
        have := Place_calls u11 _ _ W (E.err h)
        rwa [hpl] at this)
      have WC := Lib.hid (fun (W : World) (h : E.is W x u11) => show Calls Tryd.prog 15 #[u11] W fun ev w' => ∃ A c, ev = .returned (.slice A m c) ∧ Below W.heap.size W w' from
        (Whats_calls u11 _ _ W (E.err h) hwm).mono fun ev w' ⟨v, he, ho, hb⟩ => by
          obtain ⟨A, c, rfl⟩ := Kd.R_slice ho
          rw [hwl] at he
          exact ⟨A, c, he, hb⟩)
      have XA : Hid (E.is wr x u11) := hx
      have XB : Hid (E.is wr.drew x u11) := Lib.hid (E.is_below hx.out (below_drew (Below.refl wr.heap.size wr)))
      have HBd : Hid (Below w.heap.size w wr.drew) := Lib.hid (below_drew hb5.out)
      have HCd : Hid (wr.drew.cell? ⟨w3.heap.size, 1, none⟩ = some (.int .i64 r2)) := Lib.hid hc5.out
      have HGd : Hid (wr.drew.cell? ⟨0, 0, none⟩ = some errGV) := Lib.hid hg5.out
      have heq1 : (r2 == r2) = true := beq_self_eq_true r2
      have heq2 : (T == T) = true := beq_self_eq_true T
      have heq3 : ((m : Int) == (m : Int)) = true := beq_self_eq_true _
      have heq4 : (p == p) = true := beq_self_eq_true p
      clear hin h60 hlt hw2 HW2 hd hi HN6 hd5 hTb htot hpl hwl hwm hp1 HP hT hm HQ E1 hn hw1 hw1' hp HC4 HG4 B4 H4 D4 hx
      go_wp2
      go_region_held3 (fun W' => W'.cell? ⟨w3.heap.size, 1, none⟩ = some (.int .i64 r2)) (first | exact C9.out | exact C8.out | exact C7.out | exact C6.out | exact hc5.out) (first
        | (go_at_call 13; refine (KC.out _ XB.out HGd.out).mono ?_; rintro e w6 ⟨rfl, hb⟩; have X6 : Hid (E.is w6 x u11) := Lib.hid (E.is_below XB.out hb); have C6 := Lib.hid (pw_cell_below hb HCd.out); have B6 : Hid (Below w.heap.size w w6) := Lib.hid (below_step HBd.out hb); clear hb)
        | (go_at_call 13; refine (KC.out _ XA.out hg5.out).mono ?_; rintro e w6 ⟨rfl, hb⟩; have X6 : Hid (E.is w6 x u11) := Lib.hid (E.is_below XA.out hb); have C6 := Lib.hid (pw_cell_below hb hc5.out); have B6 : Hid (Below w.heap.size w w6) := Lib.hid (below_step hb5.out hb); clear hb)
        | (go_at_call 14; refine (TC.out _ X6.out).mono ?_; rintro e w7 ⟨rfl, hb⟩; have X7 : Hid (E.is w7 x u11) := Lib.hid (E.is_below X6.out hb); have C7 := Lib.hid (pw_cell_below hb C6.out); have B7 := Lib.hid (below_step B6.out hb); clear hb)
        | (go_at_call 15; refine (WC.out _ X7.out).mono ?_; rintro e w8 ⟨A8, c8, rfl, hb⟩; have X8 : Hid (E.is w8 x u11) := Lib.hid (E.is_below X7.out hb); have C8 := Lib.hid (pw_cell_below hb C7.out); have B8 := Lib.hid (below_step B7.out hb); clear hb)
        | (go_at_call 16; refine (PC.out _ X8.out).mono ?_; rintro e w9 ⟨rfl, hb⟩; have C9 := Lib.hid (pw_cell_below hb C8.out); have B9 := Lib.hid (below_step B8.out hb); clear hb))
      all_goals go_wp2
      all_goals go_ret
      all_goals exact ⟨rfl, B9.out⟩
end Go.Proofs.YtlngefnimnjkkaaDoor.P
