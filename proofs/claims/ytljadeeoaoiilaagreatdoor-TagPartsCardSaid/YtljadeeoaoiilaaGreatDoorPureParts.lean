/- Each of a right tag's texts is a subtag: the plain part. -/
import Derived.Test.YtljadeeoaoiilaaGreatDoorPureBack
namespace Go.Proofs.YtljadeeoaoiilaaGreatDoor.P
open Go.RowKit Go.Shelf Go.Proofs.YtljadeeoaoiilaaGreatDoorW.PrintWords Go.Proofs.YtljadeeoaoiilaaGreatDoorW.PrintLast Go.Proofs.YtljadeeoaoiilaaGreatDoorW.PrintMore Go.Proofs.YtljadeeoaoiilaaGreatDoor.Iso Go.Proofs.YtljadeeoaoiilaaGreatDoor.P
set_option linter.unusedVariables false
set_option linter.unusedSimpArgs false
abbrev opt1 (s : ByteArray) : List ByteArray := if s = ⟨#[]⟩ then [] else [s]
def headL (T : TG) : List ByteArray := T.lang :: (T.ext ++ (opt1 T.script ++ (opt1 T.region ++ (T.vars ++ T.exts.flatMap (fun x => x.f0 :: x.f1)))))
end Go.Proofs.YtljadeeoaoiilaaGreatDoor.P
namespace Go.Proofs.YtljadeeoaoiilaaGreatDoor.P
open Go.RowKit Go.Shelf Go.Proofs.YtljadeeoaoiilaaGreatDoorW.PrintWords Go.Proofs.YtljadeeoaoiilaaGreatDoorW.PrintLast Go.Proofs.YtljadeeoaoiilaaGreatDoorW.PrintMore Go.Proofs.YtljadeeoaoiilaaGreatDoor.Iso Go.Proofs.YtljadeeoaoiilaaGreatDoor.P
set_option linter.unusedVariables false
set_option linter.unusedSimpArgs false
theorem some1_opt (s : ByteArray) : some1 s = opt1 s := by
  unfold some1 opt1
  have : s.toList = ([] : List UInt8) ↔ s = ⟨#[]⟩ := by
    rw [Go.ByteArray.toList_eq]
    constructor
    · intro h
      exact bl_inj (show bl s = bl ⟨#[]⟩ from h)
    · intro h; rw [h]
  by_cases c : s = ⟨#[]⟩
  · rw [if_pos (this.2 c), if_pos c]
  · rw [if_neg (fun h => c (this.1 h)), if_neg c]
theorem subL_head {T : TG} (h : T.lang ≠ ⟨#[]⟩) : subL T.lang T.ext T.script T.region T.vars T.exts T.priv = headL T ++ (if T.priv = [] then [] else ⟨#[120]⟩ :: T.priv) := by
  unfold subL headL
  rw [some1_opt, some1_opt, some1_opt, show opt1 T.lang = [T.lang] from by unfold opt1; rw [if_neg h]]
  simp only [List.append_assoc, List.cons_append, List.nil_append]
end Go.Proofs.YtljadeeoaoiilaaGreatDoor.P
namespace Go.Proofs.YtljadeeoaoiilaaGreatDoor.P
open Go.RowKit Go.Shelf Go.Proofs.YtljadeeoaoiilaaGreatDoorW.PrintWords Go.Proofs.YtljadeeoaoiilaaGreatDoorW.PrintLast Go.Proofs.YtljadeeoaoiilaaGreatDoorW.PrintMore Go.Proofs.YtljadeeoaoiilaaGreatDoor.Iso Go.Proofs.YtljadeeoaoiilaaGreatDoor.P
set_option linter.unusedVariables false
set_option linter.unusedSimpArgs false
theorem opt1_mem {s x : ByteArray} (h : x ∈ opt1 s) : x = s ∧ s ≠ ⟨#[]⟩ := by
  unfold opt1 at h
  split at h
  · cases h
  · rename_i c
    exact ⟨List.mem_singleton.1 h, c⟩
end Go.Proofs.YtljadeeoaoiilaaGreatDoor.P
namespace Go.Proofs.YtljadeeoaoiilaaGreatDoor.P
open Go.RowKit Go.Shelf Go.Proofs.YtljadeeoaoiilaaGreatDoorW.PrintWords Go.Proofs.YtljadeeoaoiilaaGreatDoorW.PrintLast Go.Proofs.YtljadeeoaoiilaaGreatDoorW.PrintMore Go.Proofs.YtljadeeoaoiilaaGreatDoor.Iso Go.Proofs.YtljadeeoaoiilaaGreatDoor.P
set_option linter.unusedVariables false
set_option linter.unusedSimpArgs false
abbrev privL' (l : List ByteArray) : List ByteArray := if l = [] then [] else ⟨#[120]⟩ :: l
theorem subsT_head {T : TG} (hg : T.grand = ⟨#[]⟩) (h : T.lang ≠ ⟨#[]⟩) : subsT T = headL T ++ privL' T.priv := by
  show subsL T.lang T.ext T.script T.region T.vars T.exts T.priv T.grand = _
  unfold subsL
  rw [hg, if_pos (by rw [Go.ByteArray.toList_eq]), subL_head h]
theorem head_ok {T : TG} (h : ShapeT T) : ∀ s ∈ headL T, okB s = true := by
  intro s hs
  unfold headL at hs
  rcases List.mem_cons.1 hs with rfl | hs
  · exact h.lang.1
  rcases List.mem_append.1 hs with hs | hs
  · exact (h.ext.2.1 s hs).1
  rcases List.mem_append.1 hs with hs | hs
  · obtain ⟨rfl, hn⟩ := opt1_mem hs
    exact (h.script.resolve_left hn).1
  rcases List.mem_append.1 hs with hs | hs
  · obtain ⟨rfl, hn⟩ := opt1_mem hs
    exact (h.region.resolve_left hn).1
  rcases List.mem_append.1 hs with hs | hs
  · exact (h.vars.1 s hs).1
  · obtain ⟨x, hx, hs⟩ := List.mem_flatMap.1 hs
    rcases List.mem_cons.1 hs with rfl | hs
    · exact (h.exts.1 x hx).1
    · exact ((h.exts.1 x hx).2.2.2 s hs).1
theorem x_ok : okB ⟨#[120]⟩ = true := by decide
end Go.Proofs.YtljadeeoaoiilaaGreatDoor.P
