/- What few comes to, in plain words: four things of a row at most, twelve bytes of a text at most. -/
import Derived.Test.YtljadeeoaoiilaaGreatDoorEvC
import Derived.Test.YtljadeeoaoiilaaGreatDoorHandT
import Derived.Test.YtljadeeoaoiilaaGreatDoorPx1
import Derived.Test.YtljadeeoaoiilaaGreatDoorPx0
namespace Go.Proofs.YtljadeeoaoiilaaGreatDoor.Iso
open Go Go.RowKit Go.Proofs.YtljadeeoaoiilaaGreatDoorW.PrintWords Go.Proofs.YtljadeeoaoiilaaGreatDoor.P
set_option linter.unusedVariables false
set_option linter.unusedSimpArgs false
def cut12 (s : ByteArray) : ByteArray := if (s.size : Int) > 12 then s.extract 0 12 else s
theorem cut12_size (s : ByteArray) : (cut12 s).size ≤ 12 := by
  unfold cut12
  by_cases h : (s.size : Int) > 12
  · rw [if_pos h, ByteArray.size_extract]; omega
  · rw [if_neg h]; omega
def row4 (l : List ByteArray) : List ByteArray := (l.take 4).map cut12
theorem row4_len (l : List ByteArray) : (row4 l).length ≤ 4 := by unfold row4; rw [List.length_map, List.length_take]; omega
def cutX (x : S40) : S40 := ⟨cut12 x.f0, row4 x.f1⟩
def fewT (T : TG) : TG := ⟨cut12 T.lang, row4 T.ext, cut12 T.script, cut12 T.region, row4 T.vars, (T.exts.take 4).map cutX, row4 T.priv, cut12 T.grand⟩
end Go.Proofs.YtljadeeoaoiilaaGreatDoor.Iso
