/- The law TagKinds, in plain words: what a subtag is is told by the program as by the reference, at every text. Condition: the text has at most 2^47 - 4096 bytes, as every argument. -/
import Derived.Test.YtljadeeoaoiilaaEvTag
namespace Go.Proofs.Ytljadeeoaoiilaa.Pure
open Go.RowKit Go.Proofs.Ytljadeeoaoiilaa.P Go.Proofs.YtljadeeoaoiilaaW.PrintWords
theorem TagKinds : isoglosslaw06_TagKinds.Pure := fun s _ => (Iso.TagKinds_pure s).rounds
end Go.Proofs.Ytljadeeoaoiilaa.Pure
