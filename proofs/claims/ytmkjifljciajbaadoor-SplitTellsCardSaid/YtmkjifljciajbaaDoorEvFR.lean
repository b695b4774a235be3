/- What the document's answer of the chapter filter comes to, in plain words. Conditions: texts have at most 2^42 bytes. -/
import Derived.Test.YtmkjifljciajbaaDoorEvF

namespace Go.Proofs.YtmkjifljciajbaaDoor.Iso
set_option linter.unusedSimpArgs false
set_option linter.unusedVariables false
open Go Go.RowKit Go.Proofs.YtmkjifljciajbaaDoorW.PrintWords Go.Proofs.YtmkjifljciajbaaDoor.P
theorem mk_low_toList (s : ByteArray) : (mk (low (bl s))).toList = low (bl s) := by rw [bl_toList, bl_mk]
end Go.Proofs.YtmkjifljciajbaaDoor.Iso
