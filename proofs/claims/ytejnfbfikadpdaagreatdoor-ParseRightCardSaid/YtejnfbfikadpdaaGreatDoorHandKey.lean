/- slices.ContainsFunc at the function that extensions hands over, walked. -/
import Derived.Test.YtejnfbfikadpdaaGreatDoorSq
import Derived.Test.YtejnfbfikadpdaaGreatDoorHandVars
namespace Go.Proofs.YtejnfbfikadpdaaGreatDoor.P
open Go.RowKit Go.Shelf Go.Proofs.YtejnfbfikadpdaaGreatDoorW.PrintWords Go.Proofs.YtejnfbfikadpdaaGreatDoorW.PrintLast Go.Proofs.YtejnfbfikadpdaaGreatDoorW.PrintMore Go.Proofs.YtejnfbfikadpdaaGreatDoor.Iso
set_option linter.unusedVariables false
set_option linter.unusedSimpArgs false
attribute [local go_sem] Oper.semAt_some
def kx1_T : Bool × List (List Nat × List Nat) := (true, [([], []), ([0], [0]), ([], []), ([2], [2]), ([1, 3], [1, 3]), ([4, 3, 0, 1, 2, 3, 4], [4])])
def kx1_B : List Nat := [0, 1, 0, 4, 15, 31]
theorem kx1_tab : rtab .any (opsOf Tryz.f124 1) = kx1_T := by kernel_rfl
theorem kx1_bits : waitsOk kx1_T.2 kx1_B = true := by kernel_rfl
set_option maxRecDepth 100000 in
set_option maxHeartbeats 1000000 in
theorem key_calls {w0 wp W : World} {g : Nat} {ps : List PieceR} {E : Int} {T : TG} {v1 v4 v5 v6 : Value} (b : Nat) (hbx : W.heap[b]? = some (.cells #[.pointer (some ⟨g, 0, none⟩)] 67 (0, 0))) (h : Rd w0 wp W g ps E T v1 v4 v5 v6) (k : ByteArray) (u : Value) :
    Calls Tryz.prog 124 #[.agg #[.string k, u], .pointer (some ⟨b, 0, none⟩)] W fun e W' => e = .returned (.bool (decide (bl k = bl (hereB ps)))) ∧ Below W.heap.size W W' := by
  have HR := Lib.hid h
  have HB := Lib.hid hbx
  have HQ := Lib.hid (show (W.alloc (.cells #[.string k, u] 47)).cell? ⟨W.heap.size, 0, none⟩ = some (.string k) ∧ (W.alloc (.cells #[.string k, u] 47)).cell? ⟨b, 0, none⟩ = some (.pointer (some ⟨g, 0, none⟩)) from ⟨(blk_cell (new_blk W (.cells #[.string k, u] 47)) 0).trans rfl, (blk_cell (blk_on HB.out (below_alloc (Below.refl _ _) (.cells #[.string k, u] 47))) 0).trans rfl⟩)
  obtain ⟨x, hx⟩ : ∃ x, x = hereB ps := ⟨_, rfl⟩
  have HS := Lib.hid hx
  rw [← hx]
  clear h hbx hx
  go_enter Tryz.func124, Tryz.ntmps124
  go_wp2
  refine start_ (n := 6) (S := fun w' => w'.cell? ⟨W.heap.size, 0, none⟩ = some (.string k) ∧ w'.cell? ⟨b, 0, none⟩ = some (.pointer (some ⟨g, 0, none⟩))) (ds := []) #[false, false, false, false, false, false] (by kernel_rfl) rfl rfl (show World.cell? _ ⟨W.heap.size, 0, none⟩ = some (.string k) ∧ World.cell? _ ⟨b, 0, none⟩ = some (.pointer (some ⟨g, 0, none⟩)) from ⟨HQ.out.1, HQ.out.2⟩) (fun hHeld => ?_); refine with_tabW kx1_tab kx1_bits (fun HT_ HW_ => ?_)
  refine pu_ (i := 0) (N := some 4) HT_ (bl_ 6 1) ?_
  refine tk_ (i := 1) (N := some 5) HT_ HW_ (bl_ 6 3) hHeld ?_ (hy := by rintro w' ⟨s0, s1⟩; go_simp; with_reducible rfl)
  refine tk_ (i := 2) (N := some 6) HT_ HW_ (bl_ 6 7) hHeld ?_ (hy := by rintro w' ⟨s0, s1⟩; go_simp; with_reducible rfl)
  refine on_ (i := 3) (N := some 7) HT_ (bl_ 6 15) rfl rfl (fun K hK => ?_)
  refine gs_ Tryz.func76 #[.pointer (some ⟨g, 0, none⟩)] ?_
  refine (here_calls (Rd.step (Rd.step HR.out (below_alloc (Below.refl _ _) (.cells #[.string k, u] 47))) (below_drew (Below.refl _ _)))).mono ?_
  rw [← HS.out]
  rintro e w2 ⟨rfl, ⟨nd2, rfl⟩⟩
  refine ⟨_, rfl, ?_⟩
  refine hK.out _ _ (show World.cell? _ ⟨W.heap.size, 0, none⟩ = some (.string k) ∧ World.cell? _ ⟨b, 0, none⟩ = some (.pointer (some ⟨g, 0, none⟩)) from ⟨HQ.out.1, HQ.out.2⟩) (fun hHeld => ?_)
  clear hK K
  refine nm_ (some 7) ?_
  refine pu_ (i := 4) (N := some 8) HT_ (bl_ 6 31) ?_
  refine pu_ (i := 5) (N := some 3) HT_ (bl_ 6 63) ?_
  refine done_ (done_of HT_.out (by kernel_rfl)) ?_
  go_wp2
  go_ret
  refine ⟨?_, pw_below_drewN (below_drew (below_alloc (Below.refl _ _) _)) nd2⟩
  show Ending.returned (.bool (k.toList == x.toList)) = _
  have e : (k.toList == x.toList) = decide (bl k = bl x) := by rw [bl_toList, bl_toList]; exact Bool.eq_iff_iff.2 (by simp)
  rw [e]
abbrev keysOf (l : List S47) : List Str := l.map fun e => bl e.f0
def IdxSaid (W : World) (l : List S47) (x : ByteArray) (e : Ending) (W' : World) : Prop := ∃ r : Int, e = .returned (.int .i64 r) ∧ decide (r ≥ 0) = decide (bl x ∈ keysOf l) ∧ Below W.heap.size W W'
def HasSaid (W : World) (l : List S47) (x : ByteArray) (e : Ending) (W' : World) : Prop := e = .returned (.bool (decide (bl x ∈ keysOf l))) ∧ Below W.heap.size W W'
set_option maxRecDepth 100000 in
set_option maxHeartbeats 1000000 in
theorem keyIndex_calls {w0 wp W : World} {g : Nat} {ps : List PieceR} {E : Int} {T : TG} {v1 v4 v5 v6 : Value} (b : Nat) (hbx : W.heap[b]? = some (.cells #[.pointer (some ⟨g, 0, none⟩)] 67 (0, 0))) (h : Rd w0 wp W g ps E T v1 v4 v5 v6)
    (A : Option Addr) (c : Nat) (l : List S47) (hl : Kd.C k47 W A l.length l) (hc : l.length ≤ c) (hn : l.length ≤ 1000000) :
    Calls Tryz.prog 152 #[.slice A l.length c, .func (.func 124) #[] #[.pointer (some ⟨b, 0, none⟩)]] W fun e W' => IdxSaid W l (hereB ps) e W' := by
  have HR := Lib.hid h
  have HB := Lib.hid hbx
  have HL := Lib.hid hl
  have HC := Lib.hid hc
  have HN := Lib.hid hn
  have M0 := Lib.hid (show (bl (hereB ps) ∈ keysOf l ↔ bl (hereB ps) ∈ keysOf (l.drop 0)) from Iff.rfl)
  obtain ⟨x, hx⟩ : ∃ x, x = hereB ps := ⟨_, rfl⟩
  have HS := Lib.hid hx
  rw [← hx] at M0 ⊢
  clear h hbx hx hl hc hn
  go_enter Tryz.func152, Tryz.ntmps152
  go_wp2
  go_loopw [8] (fun iv wr => ∃ i : Nat, iv = .int .i64 (i : Int) ∧ Hid (i ≤ l.length) ∧ Hid (bl x ∈ keysOf l ↔ bl x ∈ keysOf (l.drop i)) ∧ Hid (Below W.heap.size W wr)) (fun iv _ => l.length - (intOf iv).toNat)
  case atStart => exact ⟨0, rfl, Lib.hid (Nat.zero_le _), M0, Lib.hid (Below.refl _ _)⟩
  case round =>
    clear M0
    obtain ⟨i, rfl, hi, hM, hW⟩ := hrel
    by_cases hlt : i < l.length
    · have hw2 : wrap64 ((i : Int) + 1) = ((i + 1 : Nat) : Int) := by unfold wrap64; have := HN.out; omega
      obtain ⟨ad, E1, k1, hA, hx0, hx1, lx, gx⟩ := at_T47 HL.out (i : Int) (by omega) (by omega)
      subst hA
      rw [Int.toNat_natCast] at hx0 hx1
      rw [getR l i hlt] at hx0 hx1 lx gx
      replace hx0 := pw_cell_below hW.out hx0
      replace hx1 := pw_cell_below hW.out hx1
      have q0 : ((i : Int) < (l.length : Int)) := by omega
      have q2 : decide ((i : Int) < (l.length : Int)) = true := decide_eq_true q0
      have hi0 : (0 : Int) ≤ (i : Int) := Int.natCast_nonneg _
      obtain ⟨ky, hky⟩ : ∃ k, k = l[i].f0 := ⟨_, rfl⟩
      rw [← hky] at hx0
      obtain ⟨sb, hsb⟩ : ∃ k, k = l[i].f1 := ⟨_, rfl⟩
      rw [← hsb] at hx1
      have hd : l.drop i = l[i] :: l.drop (i + 1) := List.drop_eq_getElem_cons hlt
      have HW2 := Lib.hid hw2
      have HLT := Lib.hid hlt
      by_cases ck : bl ky = bl x
      · have KC := Lib.hid (fun (u : Value) => key_calls b (blk_on HB.out hW.out) (HR.out.step hW.out) ky u)
        rw [← HS.out, decide_eq_true ck] at KC
        have HM := Lib.hid (show bl x ∈ keysOf l by rw [hM.out, hd, keysOf, List.map_cons, ← hky, ck]; exact List.mem_cons_self)
        clear hw2 lx gx hd ck hsb hky hlt
        go_wp2_with (go_at_call 124; refine (KC.out _).mono ?_; rintro e w2 ⟨rfl, hb⟩; have HBB := Lib.hid hb; clear hb)
        go_ret
        refine ⟨(i : Int), rfl, ?_, below_step hW.out HBB.out⟩
        rw [decide_eq_true HM.out, decide_eq_true (by omega)]
      · have KC := Lib.hid (fun (u : Value) => key_calls b (blk_on HB.out hW.out) (HR.out.step hW.out) ky u)
        rw [← HS.out, decide_eq_false ck] at KC
        have HM := Lib.hid (show (bl x ∈ keysOf l ↔ bl x ∈ keysOf (l.drop (i + 1))) by
          rw [hM.out, hd, keysOf, List.map_cons, ← hky]
          exact ⟨fun h => (List.mem_cons.1 h).resolve_left (fun e => ck e.symm), fun h => List.mem_cons_of_mem _ h⟩)
        clear hw2 lx gx hd ck hsb hky hlt
        go_wp2_with (go_at_call 124; refine (KC.out _).mono ?_; rintro e w2 ⟨rfl, hb⟩; have HBB := Lib.hid hb; clear hb)
        refine ⟨⟨i + 1, by rw [HW2.out], Lib.hid (Nat.succ_le_of_lt HLT.out), HM, Lib.hid (below_step hW.out HBB.out)⟩, ?_⟩
        rw [HW2.out]
        show l.length - ((i + 1 : Nat) : Int).toNat < l.length - (i : Int).toNat
        have := HLT.out
        omega
    · have q0 : ¬ ((i : Int) < (l.length : Int)) := by omega
      have q2 : decide ((i : Int) < (l.length : Int)) = false := decide_eq_false q0
      have HM := Lib.hid (show ¬ bl x ∈ keysOf l by rw [hM.out, List.drop_eq_nil_of_le (by omega)]; exact List.not_mem_nil)
      go_wp2
      go_ret
      refine ⟨-1, rfl, ?_, hW.out⟩
      rw [decide_eq_false HM.out, decide_eq_false (by decide)]
set_option maxRecDepth 100000 in
set_option maxHeartbeats 1000000 in
theorem keyHas_calls {w0 wp W : World} {g : Nat} {ps : List PieceR} {E : Int} {T : TG} {v1 v4 v5 v6 : Value} (b : Nat) (hbx : W.heap[b]? = some (.cells #[.pointer (some ⟨g, 0, none⟩)] 67 (0, 0))) (h : Rd w0 wp W g ps E T v1 v4 v5 v6)
    (A : Option Addr) (c : Nat) (l : List S47) (hl : Kd.C k47 W A l.length l) (hc : l.length ≤ c) (hn : l.length ≤ 1000000) :
    Calls Tryz.prog 123 #[.slice A l.length c, .func (.func 124) #[] #[.pointer (some ⟨b, 0, none⟩)]] W fun e W' => HasSaid W l (hereB ps) e W' := by
  have HK := Lib.hid (keyIndex_calls b hbx h A c l hl hc hn)
  clear h hbx hl hc hn
  go_enter Tryz.func123, Tryz.ntmps123
  go_wp2_with (go_at_call 152; refine HK.out.mono ?_; rintro e w2 ⟨r, rfl, hd, hb⟩; have HD := Lib.hid hd; have HBB := Lib.hid hb; clear hd hb)
  go_ret
  refine ⟨?_, HBB.out⟩
  rw [← HD.out]
  rfl
end Go.Proofs.YtejnfbfikadpdaaGreatDoor.P
