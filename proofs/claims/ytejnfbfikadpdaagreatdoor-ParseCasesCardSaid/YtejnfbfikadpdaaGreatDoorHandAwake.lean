/- The chapter's example, walked. -/
import Derived.Test.YtejnfbfikadpdaaGreatDoorHandUse
namespace Go.Proofs.YtejnfbfikadpdaaGreatDoor.P
open Go.RowKit Go.Shelf Go.Proofs.YtejnfbfikadpdaaGreatDoorW.PrintWords Go.Proofs.YtejnfbfikadpdaaGreatDoorW.PrintLast Go.Proofs.YtejnfbfikadpdaaGreatDoorW.PrintMore Go.Proofs.YtejnfbfikadpdaaGreatDoor.Iso
set_option linter.unusedVariables false
set_option linter.unusedSimpArgs false
attribute [local go_sem] Oper.semAt_some
theorem wake1 : parseR ⟨#[122, 104, 45, 72, 97, 110, 116, 45, 84, 87, 45, 120, 45, 97]⟩ = .good { T0 with lang := ⟨#[122, 104]⟩, script := ⟨#[104, 97, 110, 116]⟩, region := ⟨#[116, 119]⟩, priv := [⟨#[97]⟩] } := by kernel_rfl
theorem wake2 : parseR ⟨#[100, 101, 45, 49, 57, 48, 49, 45, 49, 57, 48, 49]⟩ = .bad 11 8 ⟨#[118, 97, 114, 105, 97, 110, 116]⟩ := by kernel_rfl
structure Given (W : World) : Prop where
  names : NamesIn W
  err : W.cell? ⟨1, 0, none⟩ = some errV
theorem Given.below {W W' : World} (h : Given W) (hb : Below W.heap.size W W') : Given W' := ⟨h.names.on hb, pw_cell_below hb h.err⟩
set_option maxRecDepth 100000 in
set_option maxHeartbeats 4000000 in
theorem awake_calls (w : World) (hG : Given w) : Calls Tryz.prog 10 #[] w fun e w' => e = .returned (.bool true) ∧ Below w.heap.size w w' := by
  have HG := Lib.hid hG
  obtain ⟨T, hT⟩ : ∃ T : TG, T = { T0 with lang := ⟨#[122, 104]⟩, script := ⟨#[104, 97, 110, 116]⟩, region := ⟨#[116, 119]⟩, priv := [⟨#[97]⟩] } := ⟨_, rfl⟩
  have P1 := Lib.hid (fun W (h : NamesIn W) => Parse_good (wake1.trans (by rw [← hT])) (by decide) W h)
  have P2 := Lib.hid (fun W (h : NamesIn W) => Parse_bad wake2 (by decide) W h)
  have t0 : T.lang = ⟨#[122, 104]⟩ := by rw [hT]
  have t2 : T.script = ⟨#[104, 97, 110, 116]⟩ := by rw [hT]
  have t3 : T.region = ⟨#[116, 119]⟩ := by rw [hT]
  have t6 : T.priv.length = 1 := by rw [hT]; rfl
  clear hG hT
  go_enter Tryz.func10, Tryz.ntmps10
  go_wp2_with (first
    | (go_at_call 13; refine (P1.out _ HG.out.names).mono ?_; rintro e w1 ⟨A1, c1, A4, c4, A5, c5, A6, c6, rfl, hr, hb⟩; have HB1 := Lib.hid hb; clear hb hr P1)
    | (go_at_call 13; refine (P2.out _ ((HG.out.below HB1.out).below (below_alloc (Below.refl _ _) _)).names).mono ?_; rintro e w2 ⟨B1, d1, B4, d4, B5, d5, B6, d6, B, rfl, hF, hr, hb⟩; obtain ⟨ob, hob⟩ : ∃ ob : Obj, ob = .cells #[.string ⟨#[]⟩, .slice B1 0 d1, .string ⟨#[]⟩, .string ⟨#[]⟩, .slice B4 0 d4, .slice B5 0 d5, .slice B6 0 d6, .string ⟨#[]⟩] 29 := ⟨_, rfl⟩; have HF2 := Lib.hid (hF.below (below_alloc (Below.refl _ _) ob)); have HB2 := Lib.hid (below_step (below_step HB1.out (below_alloc (Below.refl _ _) _)) hb); have tb := blk_on (new_blk w1 _) hb; obtain ⟨g0, g1, g2, g3, g4, g5, g6, g7⟩ := cells8o tb ob; have HB3 := Lib.hid (below_alloc HB2.out ob); subst hob; clear hF hb hr P2 tb g1 g4 g5 g7)
    | (go_at_call 25; refine (kind_calls (r := .bad 11 8 ⟨#[118, 97, 114, 105, 97, 110, 116]⟩) (HG.out.below HB3.out).err ⟨B, rfl, HF2.out⟩).mono ?_; rintro e w4 ⟨he, hb⟩; obtain rfl : e = .returned (.int .i64 11) := he; have HF4 := Lib.hid (HF2.out.below hb); have HB4 := Lib.hid (below_step HB3.out hb); clear hb)
    | (go_at_call 26; refine (place_calls (r := .bad 11 8 ⟨#[118, 97, 114, 105, 97, 110, 116]⟩) ⟨B, rfl, HF4.out⟩).mono ?_; rintro e w5 ⟨he, hb⟩; obtain rfl : e = .returned (.int .i64 8) := he; have HB5 := Lib.hid (below_step HB4.out hb); clear hb))
  trace_state
  go_ret
  exact ⟨rfl, HB5.out⟩
end Go.Proofs.YtejnfbfikadpdaaGreatDoor.P
