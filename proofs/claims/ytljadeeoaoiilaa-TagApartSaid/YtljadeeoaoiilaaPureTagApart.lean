/- The law TagApart, in plain words: the kinds of subtags are apart, as the law says, at every text. Condition: the text has at most 2^47 - 4096 bytes, as every argument. -/
import Derived.Test.YtljadeeoaoiilaaEvTag
namespace Go.Proofs.Ytljadeeoaoiilaa.Pure
open Go.RowKit Go.Proofs.Ytljadeeoaoiilaa.P Go.Proofs.YtljadeeoaoiilaaW.PrintWords
theorem TagApart : isoglosslaw06_TagApart.Pure := fun s _ => (Iso.TagApart_pure s).rounds
end Go.Proofs.Ytljadeeoaoiilaa.Pure
