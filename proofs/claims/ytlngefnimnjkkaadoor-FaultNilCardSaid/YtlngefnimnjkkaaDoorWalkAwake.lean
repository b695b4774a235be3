/- The chapter's example, walked by hand. -/
import Derived.Test.YtlngefnimnjkkaaDoorHandIs
import Derived.Test.YtlngefnimnjkkaaDoorHandTotal
import Derived.Test.YtlngefnimnjkkaaDoorHandWhats
namespace Go.Proofs.YtlngefnimnjkkaaDoor.P
open Go.RowKit Go.Shelf Go.Proofs.YtlngefnimnjkkaaDoorW.PrintWords
attribute [local go_sem] Oper.semAt_some
set_option linter.unusedVariables false
set_option linter.unusedSimpArgs false
set_option maxHeartbeats 2000000 in
theorem isoglosslaw01_awake.calls (w : World) (hg : w.cell? ⟨0, 0, none⟩ = some errGV) :
    Calls Tryd.prog 9 #[] w fun e w' => e = .returned (.bool true) ∧ Below w.heap.size w w' := by
  have HG := Lib.hid hg
  clear hg
  go_enter Tryd.func9, Tryd.ntmps9
  go_wp2_with (first
    | (go_at_call 11; refine (New_is 10 3 ⟨#[115, 117, 98, 116, 97, 103]⟩ _ (by decide)).mono ?_; rintro e w1 ⟨v1, rfl, h1, hb1⟩; have H1 := Lib.hid h1; have B1 := Lib.hid hb1; clear h1 hb1)
    | (go_at_call 12; refine (Wrap_is _ _ 10 ⟨#[116, 97, 103]⟩ _ H1.out (by intro h; cases h)).mono ?_; rintro e w2 ⟨v2, rfl, h2, hb2⟩; have H2 := Lib.hid h2; have B2 := Lib.hid (below_step B1.out hb2); clear h2 hb2 H1 B1)
    | (go_at_call 13; refine (Kind_any _ _ _ (pw_cell_below B2.out HG.out) H2.out).mono ?_; rintro e w3 ⟨he, hb3⟩; obtain rfl : e = .returned (.int .i64 10) := he; have H3 := Lib.hid (E.is_below H2.out hb3); have B3 := Lib.hid (below_step B2.out hb3); clear hb3 H2 B2)
    | (go_at_call 16; refine (Place_calls _ _ _ _ (E.err H3.out)).mono ?_; rintro e w4 ⟨he, hb4⟩; obtain rfl : e = .returned (.int .i64 10) := he; have H4 := Lib.hid (E.is_below H3.out hb4); have B4 := Lib.hid (below_step B3.out hb4); clear hb4 H3 B3)
    | (go_at_call 14; refine (Total_calls _ _ _ _ (E.err H4.out)).mono ?_; rintro e w5 ⟨he, hb5⟩; obtain rfl : e = .returned (.int .i64 13) := he; have B5 := Lib.hid (below_step B4.out hb5); clear hb5 H4 B4))
  go_ret
  exact ⟨rfl, B5.out⟩
end Go.Proofs.YtlngefnimnjkkaaDoor.P
