/- The law's function cases, walked. -/
import Derived.Test.YtejnfbfikadpdaaGreatDoorPureBase
import Derived.Test.YtejnfbfikadpdaaGreatDoorHandSp7
import Derived.Test.YtejnfbfikadpdaaGreatDoorHandLaw
import Derived.Test.YtejnfbfikadpdaaGreatDoorHandRec
namespace Go.Proofs.YtejnfbfikadpdaaGreatDoor.P
open Go.RowKit Go.Proofs.YtejnfbfikadpdaaGreatDoorW.PrintWords Go.Proofs.YtejnfbfikadpdaaGreatDoor.Iso
set_option linter.unusedVariables false
set_option linter.unusedSimpArgs false
theorem eachGo_low : ∀ (s : Str) (a : Nat) (acc : Str), eachGo a (low acc) (low s) = (eachGo a acc s).map fun p => (p.1, low p.2)
  | [], a, acc => rfl
  | c :: t, a, acc => by
    show eachGo a (low acc) (lowC c :: low t) = _
    rw [eachGo, eachGo]
    by_cases h : c = 45
    · rw [if_pos h, if_pos ((lowC_dash c).2 h), List.map_cons, ← eachGo_low t _ [], low_length]; rfl
    · rw [if_neg h, if_neg (fun e => h ((lowC_dash c).1 e)), ← eachGo_low t a (acc ++ [c])]
      unfold low
      rw [List.map_append]; rfl
theorem offP_low (a : Nat) (t : Str) : offP a (low t) = offP a t := by
  unfold offP
  have := eachGo_low t a []
  rw [show low [] = [] from rfl] at this
  rw [this, List.map_map]
  apply List.map_congr_left
  intro p _
  show (⟨(p.1 : Int), mk (low (low p.2))⟩ : PieceR) = ⟨(p.1 : Int), mk (low p.2)⟩
  rw [low_low]
theorem isGrand_low {s u : ByteArray} (h : low (bl s) = low (bl u)) : isGrand s = isGrand u := by
  have hf : findP s = findP u := by funext i; unfold findP; rw [h]
  unfold isGrand findI same
  rw [hf, h]
theorem parseR_low {s u : ByteArray} (h : low (bl s) = low (bl u)) : parseR s = parseR u := by
  have hl : s.size = u.size := by
    have := congrArg List.length h
    rwa [low_length, low_length, bl_len, bl_len] at this
  unfold parseR
  rw [isGrand_low h, h, hl, piecesOf_off, piecesOf_off, ← offP_low 0 (bl s), h, offP_low]
end Go.Proofs.YtejnfbfikadpdaaGreatDoor.P
namespace Go.Proofs.YtejnfbfikadpdaaGreatDoor.P
open Go.RowKit Go.Shelf Go.Proofs.YtejnfbfikadpdaaGreatDoorW.PrintWords Go.Proofs.YtejnfbfikadpdaaGreatDoorW.PrintLast Go.Proofs.YtejnfbfikadpdaaGreatDoorW.PrintMore Go.Proofs.YtejnfbfikadpdaaGreatDoor.Iso
set_option linter.unusedVariables false
set_option linter.unusedSimpArgs false
attribute [local go_sem] Oper.semAt_some
set_option maxRecDepth 100000 in
set_option maxHeartbeats 8000000 in
theorem cases_calls (s : ByteArray) (hs : s.size ≤ 100000) (bits : Int) (w : World) (hG : Given w) :
    Calls Tryz.prog 17 #[.string s, .int .i64 bits] w fun e w' => e = .returned (.bool true) ∧ Below w.heap.size w w' := by
  have HG := Lib.hid hG
  have HS := Lib.hid hs
  obtain ⟨r, hr⟩ : ∃ r, r = parseR s := ⟨_, rfl⟩
  obtain ⟨T, hT⟩ : ∃ T, T = tagR r := ⟨_, rfl⟩
  have PT := Lib.hid (fun (u : ByteArray) (hu : low (bl u) = low (bl s)) (W : World) (hN : NamesIn W) => show Calls Tryz.prog 13 #[.string u] W fun e W' => ∃ A1 c1 A4 c4 A5 c5 A6 c6 ev, e = .returned (.tuple #[.agg (tagCells T A1 c1 A4 c4 A5 c5 A6 c6), ev]) ∧ ErrC W' r ev ∧ RowsC W' T A1 c1 A4 c4 A5 c5 A6 c6 ∧ Below W.heap.size W W' from by
    have hl : u.size = s.size := by
      have := congrArg List.length hu
      rwa [low_length, low_length, bl_len, bl_len] at this
    have := Parse_tag u (by omega) W hN
    rwa [parseR_low hu, ← hr, ← hT] at this)
  clear hr hT hG hs
  go_enter Tryz.func17, Tryz.ntmps17
  go_wp2
  go_loopw [5, 6] (fun bv iv wr => ∃ (i : Nat) (L : Str), iv = .int .i64 (i : Int) ∧ Hid (i ≤ s.size) ∧ Hid (low L = low ((bl s).take i)) ∧ Hid (Kd.R (Kd.int .u8) 5 wr w.heap.size (fun _ => True) bv (L.map fun c => (c.toNat : Int))) ∧ Hid (Below w.heap.size w wr)) (fun _ iv _ => s.size - (intOf iv).toNat)
  case atStart => exact ⟨0, [], rfl, Lib.hid (Nat.zero_le _), Lib.hid rfl, Lib.hid (Kd.R_nil _ _ _ _ _), Lib.hid (Below.refl _ _)⟩
  case round =>
    obtain ⟨i, L, rfl, hi, hL, hR, hW⟩ := hrel
    by_cases hlt : i < s.size
    · obtain ⟨x, hx, hbt⟩ : ∃ c : UInt8, (bl s)[i]? = some c ∧ True := ⟨_, List.getElem?_eq_getElem (by rw [bl_len]; exact hlt), trivial⟩
      have q1 : decide ((i : Int) < (s.size : Int)) = true := decide_eq_true (by omega)
      have q2 : (0 : Int) ≤ (i : Int) := by omega
      have w1 : wrap64 ((i : Int) + 1) = (i : Int) + 1 := by have := HS.out; unfold wrap64; omega
      have q3 : (i : Int) ≤ (i : Int) + 1 := by omega
      have q4 : (i : Int) + 1 ≤ (s.size : Int) := by omega
      have hc0 : bl (s.extract i (i + 1)) = [x] := by
        rw [bl_extract, Nat.add_sub_cancel_left, List.take_one]
        rw [List.getElem?_eq_getElem (by rw [bl_len]; exact hlt)] at hx
        rw [List.head?_drop, List.getElem?_eq_getElem (by rw [bl_len]; exact hlt), Option.some.inj hx]; rfl
      have hsz : (s.extract i (i + 1)).size = 1 := by rw [← bl_len, hc0]; rfl
      have UP := Lib.hid (fun W : World => upper02_calls (s.extract i (i + 1)) (by omega) W)
      have LO := Lib.hid (fun W : World => lower02_calls (s.extract i (i + 1)) (by omega) W)
      rw [hc0] at UP LO
      have LX := Lib.hid (show low (L ++ [upC x]) = low ((bl s).take (i + 1)) ∧ low (L ++ [lowC x]) = low ((bl s).take (i + 1)) from by
        have e : (bl s).take (i + 1) = (bl s).take i ++ [x] := by rw [List.take_add_one, hx]; rfl
        rw [e]
        have h := hL.out
        unfold low at h ⊢
        rw [List.map_append, List.map_append, List.map_append, h]
        have h1 := up_low [x]
        have h2 := low_low [x]
        unfold low Iso.up at h1
        unfold low at h2
        exact ⟨congrArg _ h1, congrArg _ h2⟩)
      have HLL := Lib.hid (show L.length ≤ 100000 from by
        have := congrArg List.length hL.out
        rw [low_length, low_length, List.length_take, bl_len] at this
        have := HS.out
        omega)
      have HI := Lib.hid hlt
      obtain ⟨yu, hyu⟩ : ∃ y, y = upC x := ⟨_, rfl⟩
      obtain ⟨yl, hyl⟩ : ∃ y, y = lowC x := ⟨_, rfl⟩
      obtain ⟨cu, hcu⟩ : ∃ c, c = mk [yu] := ⟨_, rfl⟩
      obtain ⟨cl, hcl⟩ : ∃ c, c = mk [yl] := ⟨_, rfl⟩
      have UP2 := Lib.hid (show ∀ W : World, Calls Tryz.prog 14 #[.string (s.extract i (i + 1))] W fun e W' => e = .returned (.string cu) ∧ Below W.heap.size W W' from by rw [hcu, hyu]; exact UP.out)
      have LO2 := Lib.hid (show ∀ W : World, Calls Tryz.prog 24 #[.string (s.extract i (i + 1))] W fun e W' => e = .returned (.string cl) ∧ Below W.heap.size W W' from by rw [hcl, hyl]; exact LO.out)
      rw [← hyu, ← hyl] at LX
      have su : cu.size = 1 := by rw [hcu]; rfl
      have sl : cl.size = 1 := by rw [hcl]; rfl
      have zu : ∀ h : 0 < cu.size, (cu[0]'h) = yu := by rw [hcu]; intro h; rfl
      have zl : ∀ h : 0 < cl.size, (cl[0]'h) = yl := by rw [hcl]; intro h; rfl
      clear UP LO hc0 hsz hyu hyl hcu hcl hL hx hbt hlt
      go_wp2_with (first | (go_at_call 14; refine (UP2.out _).mono ?_; rintro e w2 ⟨rfl, hb⟩; have HB2 := Lib.hid (below_step hW.out hb); have HR2 := Lib.hid (Kd.R_below hR.out hb); clear hb) | (go_at_call 24; refine (LO2.out _).mono ?_; rintro e w2 ⟨rfl, hb⟩; have HB2 := Lib.hid (below_step hW.out hb); have HR2 := Lib.hid (Kd.R_below hR.out hb); clear hb) | (at_builtin; (refine Kd.R_append (Kd.int .u8) (w0 := w) w.heap.size rfl (.tmp 35) (.tmp 38) 79 5 (.int .u8 0) 1 rfl Tryz.underlying79 info5 rfl (by decide) (by omega) u5 (L.map fun c => (c.toNat : Int)) (yu.toNat : Int) [.int .u8 (yu.toNat : Int)] (fun _ => True) (fun _ => False) rfl rfl ?aP (fun _ hk => hk.elim) ?aF ?aO ?aB ?aS ?aL ?_; (case aP => exact rfl); (case aB => exact HB2.out); (case aF => exact (fun _ _ => trivial)); (case aO => exact HR2.out); (case aS => exact below_size HB2.out); (case aL => rw [List.length_map]; have := HLL.out; omega); intro v7 w7 ho hb hg hat); have HR7 := Lib.hid ho; have HB7 := Lib.hid hb; clear ho hb hg hat) | (at_builtin; (refine Kd.R_append (Kd.int .u8) (w0 := w) w.heap.size rfl (.tmp 35) (.tmp 38) 79 5 (.int .u8 0) 1 rfl Tryz.underlying79 info5 rfl (by decide) (by omega) u5 (L.map fun c => (c.toNat : Int)) (yl.toNat : Int) [.int .u8 (yl.toNat : Int)] (fun _ => True) (fun _ => False) rfl rfl ?aP (fun _ hk => hk.elim) ?aF ?aO ?aB ?aS ?aL ?_; (case aP => exact rfl); (case aB => exact HB2.out); (case aF => exact (fun _ _ => trivial)); (case aO => exact HR2.out); (case aS => exact below_size HB2.out); (case aL => rw [List.length_map]; have := HLL.out; omega); intro v7 w7 ho hb hg hat); have HR7 := Lib.hid ho; have HB7 := Lib.hid hb; clear ho hb hg hat))
      · refine ⟨⟨i + 1, L ++ [yu], congrArg (Value.int .i64) (by rw [w1]; omega), Lib.hid (by have := HI.out; omega), Lib.hid LX.out.1, Lib.hid (by rw [List.map_append]; exact HR7.out), HB7⟩, ?_⟩
        rw [w1]
        show s.size - ((i : Int) + 1).toNat < s.size - (i : Int).toNat
        have := HI.out
        omega
      · refine ⟨⟨i + 1, L ++ [yl], congrArg (Value.int .i64) (by rw [w1]; omega), Lib.hid (by have := HI.out; omega), Lib.hid LX.out.2, Lib.hid (by rw [List.map_append]; exact HR7.out), HB7⟩, ?_⟩
        rw [w1]
        show s.size - ((i : Int) + 1).toNat < s.size - (i : Int).toNat
        have := HI.out
        omega
    · have HLO := Lib.hid (show low (bl (mk L)) = low (bl s) from by
        rw [bl_mk, hL.out, List.take_of_length_le (by rw [bl_len]; omega)])
      have q1 : decide (i < s.size) = false := decide_eq_false hlt
      have PT1 := Lib.hid (PT.out s rfl)
      have PT2 := Lib.hid (PT.out (mk L) HLO.out)
      clear hlt PT
      go_wp2_with (first | (go_at_call 13; refine (PT1.out _ (HG.out.below hW.out).names).mono ?_; rintro e w3 ⟨C_1, C_c1, C_4, C_c4, C_5, C_c5, C_6, C_c6, ev1, rfl, hE, hr3, hb⟩; have HB3 := Lib.hid (below_step hW.out hb); have HE3 := Lib.hid hE; have RC3 := Lib.hid hr3; have hcv := own_string (P := Tryz.prog) Tryz.underlying79 Tryz.underlying5 Tryz.underlying9 (Kd.own_of_R (Kd.R_alloc (Kd.R_below hR.out hb) (.cells #[.string T.lang, .slice C_1 T.ext.length C_c1, .string T.script, .string T.region, .slice C_4 T.vars.length C_c4, .slice C_5 T.exts.length C_c5, .slice C_6 T.priv.length C_c6, .string T.grand] 29))); rw [strOf] at hcv; clear hE hr3 hb PT1) | (go_at_call 13; refine (PT2.out _ (HG.out.below (below_alloc HB3.out _)).names).mono ?_; rintro e w4 ⟨D_1, D_c1, D_4, D_c4, D_5, D_c5, D_6, D_c6, ev2, rfl, hE, hr4, hb⟩; have HB4 := Lib.hid (below_step (below_alloc HB3.out _) hb); have HE4 := Lib.hid ((HE3.out.below (below_alloc (Below.refl _ _) (.cells #[.string T.lang, .slice C_1 T.ext.length C_c1, .string T.script, .string T.region, .slice C_4 T.vars.length C_c4, .slice C_5 T.exts.length C_c5, .slice C_6 T.priv.length C_c6, .string T.grand] 29))).below hb); have HF4 := Lib.hid hE; have RC4 := Lib.hid ((RC3.out.below (below_alloc (Below.refl _ _) (.cells #[.string T.lang, .slice C_1 T.ext.length C_c1, .string T.script, .string T.region, .slice C_4 T.vars.length C_c4, .slice C_5 T.exts.length C_c5, .slice C_6 T.priv.length C_c6, .string T.grand] 29))).below hb); have RD4 := Lib.hid hr4; obtain ⟨q0, q1, q2, q3, q4, q5, q6, q7⟩ := cells8o (blk_on (new_blk w3 (.cells #[.string T.lang, .slice C_1 T.ext.length C_c1, .string T.script, .string T.region, .slice C_4 T.vars.length C_c4, .slice C_5 T.exts.length C_c5, .slice C_6 T.priv.length C_c6, .string T.grand] 29)) hb) (.cells #[.string T.lang, .slice D_1 T.ext.length D_c1, .string T.script, .string T.region, .slice D_4 T.vars.length D_c4, .slice D_5 T.exts.length D_c5, .slice D_6 T.priv.length D_c6, .string T.grand] 29); obtain ⟨u0, u1, u2, u3, u4, u5, u6, u7⟩ := cells8p (new_blk w4 (.cells #[.string T.lang, .slice D_1 T.ext.length D_c1, .string T.script, .string T.region, .slice D_4 T.vars.length D_c4, .slice D_5 T.exts.length D_c5, .slice D_6 T.priv.length D_c6, .string T.grand] 29)); clear hE hr4 hb hcv HB3 HE3 RC3) | (go_at_call 16; refine (same_calls (RC4.out.below (below_alloc (Below.refl _ _) _)) (RD4.out.below (below_alloc (Below.refl _ _) _))).mono ?_; rw [sameT_refl]; rintro e w5 ⟨rfl, hb⟩; have HB5 := Lib.hid (below_step (below_alloc HB4.out _) hb); have HE5 := Lib.hid ((HE4.out.below (below_alloc (Below.refl _ _) (.cells #[.string T.lang, .slice D_1 T.ext.length D_c1, .string T.script, .string T.region, .slice D_4 T.vars.length D_c4, .slice D_5 T.exts.length D_c5, .slice D_6 T.priv.length D_c6, .string T.grand] 29))).below hb); have HF5 := Lib.hid ((HF4.out.below (below_alloc (Below.refl _ _) (.cells #[.string T.lang, .slice D_1 T.ext.length D_c1, .string T.script, .string T.region, .slice D_4 T.vars.length D_c4, .slice D_5 T.exts.length D_c5, .slice D_6 T.priv.length D_c6, .string T.grand] 29))).below hb); clear q0 q1 q2 q3 q4 q5 q6 q7 u0 u1 u2 u3 u4 u5 u6 u7 hb HB4 HE4 HF4 RC4 RD4) | (go_at_call 25; refine (kind_calls (HG.out.below HB5.out).err HE5.out).mono ?_; rintro e w6 ⟨rfl, hb⟩; have HB6 := Lib.hid (below_step HB5.out hb); have HE6 := Lib.hid (HE5.out.below hb); have HF6 := Lib.hid (HF5.out.below hb); clear hb HB5 HE5 HF5) | (go_at_call 25; refine (kind_calls (HG.out.below HB6.out).err HF6.out).mono ?_; rintro e w7 ⟨rfl, hb⟩; have HB7 := Lib.hid (below_step HB6.out hb); have HE7 := Lib.hid (HE6.out.below hb); have HF7 := Lib.hid (HF6.out.below hb); clear hb HB6 HE6 HF6) | (go_at_call 26; refine (place_calls HE7.out).mono ?_; rintro e w8 ⟨rfl, hb⟩; have HB8 := Lib.hid (below_step HB7.out hb); have HF8 := Lib.hid (HF7.out.below hb); clear hb HB7 HE7 HF7) | (go_at_call 26; refine (place_calls HF8.out).mono ?_; rintro e w9 ⟨rfl, hb⟩; have HB9 := Lib.hid (below_step HB8.out hb); clear hb HB8 HF8))
      go_ret
      exact ⟨rfl, HB9.out⟩
end Go.Proofs.YtejnfbfikadpdaaGreatDoor.P
