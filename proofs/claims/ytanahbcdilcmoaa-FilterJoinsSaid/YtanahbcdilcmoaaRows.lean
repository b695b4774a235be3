/-
  No cell of these rows narrows 'for every input' (looked for: loops, veiled, ifaces, maps, wideKeys, modest, calm, conditions, laid).
  DERIVED. THE GIVEN ROWS OF THIS SEAT. 6 by the template 'for every input the law returns true; each argument reads behind the call as it read before'; 0 by the template 'total and deterministic' (their statements: YtanahbcdilcmoaaTotals.lean).
  GIVEN WITH THE SEED: the statements are not yours to turn. If you find one false, say at which input.
  Laid BY PROGRAM, IN A SANDBOX (cutbox-rows.mjs): the forced cells as the released guide's own fill.sh prints them over the translation 8041fe060c8b788e… (all of the seat's roots in one cut). By AI agents, Wed Nov 11 2026. No macro, syntax, notation, axiom, sorry.
-/
import Derived.Test.YtanahbcdilcmoaaChecked
import GoSem.Claim
import GoSem.ClaimJoined
import GoSem.ClaimMapViews
import Derived.JoinedTies
import Derived.KernelRfl
namespace Go.Proofs.Ytanahbcdilcmoaa
/- THE CELL 'sum', in the pinned program and in every row, IS THE sha256 OF THE DUMP (.gsa) THAT YtanahbcdilcmoaaProg.lean LOADS. Nothing in Lean hashes anything: it is a label: what it is worth is what the hold of that sum in a sandbox is worth. -/
noncomputable def Try.pinned : Pinned := { name := "ytanahbcdilcmoaa", sum := "8041fe060c8b788e8ecae0fa1618129d1b8e4a12f8eae693e3547f52034b5767", checked := Try.checked }
namespace Rows
def none {H : Type} : Left H := { results := [], args := [] }

/-- 'isoglosslaw20.FilterTells': WHATEVER THE INPUT: true; the input reads as it did. -/
def filterTellsSpec : ChangeSpec := { name := "filterTells", fn := fun _ => fun
  | [d1, d2] => { results := [.lit (.bool true)], args := [d1, d2] }
  | _ => none }
def filterTellsRow : OpenClaim := { program := "ytanahbcdilcmoaa", sum := "8041fe060c8b788e8ecae0fa1618129d1b8e4a12f8eae693e3547f52034b5767", func := "isogloss/isoglosslaw20.FilterTells", spec := "filterTells", inPlace := ["internal/bytealg.IndexByteString", "internal/bytealg.IndexString"], unfollowed := true, recurses := true, named := ["internal/bytealg.MaxLen"], apart := false }
def FilterTellsSaid : Prop := filterTellsRow.holds Try.pinned (OpenSpec.ofChange filterTellsSpec)

/-- ITS FALSE NEIGHBOUR: 'it returns false'. Refute it at one input. -/
def filterTellsWrong : ChangeSpec := { name := "filterTells", fn := fun _ => fun
  | [d1, d2] => { results := [.lit (.bool false)], args := [d1, d2] }
  | _ => none }
def FilterTellsWrongFalsely : Prop := filterTellsRow.holds Try.pinned (OpenSpec.ofChange filterTellsWrong)

/-- 'isoglosslaw20.FilterCases': WHATEVER THE INPUT: true; the input reads as it did. -/
def filterCasesSpec : ChangeSpec := { name := "filterCases", fn := fun _ => fun
  | [d1, d2] => { results := [.lit (.bool true)], args := [d1, d2] }
  | _ => none }
def filterCasesRow : OpenClaim := { program := "ytanahbcdilcmoaa", sum := "8041fe060c8b788e8ecae0fa1618129d1b8e4a12f8eae693e3547f52034b5767", func := "isogloss/isoglosslaw20.FilterCases", spec := "filterCases", inPlace := ["internal/bytealg.IndexByteString", "internal/bytealg.IndexString"], unfollowed := true, recurses := true, named := ["internal/bytealg.MaxLen"], apart := false }
def FilterCasesSaid : Prop := filterCasesRow.holds Try.pinned (OpenSpec.ofChange filterCasesSpec)

/-- ITS FALSE NEIGHBOUR: 'it returns false'. Refute it at one input. -/
def filterCasesWrong : ChangeSpec := { name := "filterCases", fn := fun _ => fun
  | [d1, d2] => { results := [.lit (.bool false)], args := [d1, d2] }
  | _ => none }
def FilterCasesWrongFalsely : Prop := filterCasesRow.holds Try.pinned (OpenSpec.ofChange filterCasesWrong)

/-- 'isoglosslaw20.FilterMore': WHATEVER THE INPUT: true; the input reads as it did. -/
def filterMoreSpec : ChangeSpec := { name := "filterMore", fn := fun _ => fun
  | [d1, d2] => { results := [.lit (.bool true)], args := [d1, d2] }
  | _ => none }
def filterMoreRow : OpenClaim := { program := "ytanahbcdilcmoaa", sum := "8041fe060c8b788e8ecae0fa1618129d1b8e4a12f8eae693e3547f52034b5767", func := "isogloss/isoglosslaw20.FilterMore", spec := "filterMore", inPlace := ["internal/bytealg.IndexByteString", "internal/bytealg.IndexString"], unfollowed := true, recurses := true, named := ["internal/bytealg.MaxLen"], apart := false }
def FilterMoreSaid : Prop := filterMoreRow.holds Try.pinned (OpenSpec.ofChange filterMoreSpec)

/-- ITS FALSE NEIGHBOUR: 'it returns false'. Refute it at one input. -/
def filterMoreWrong : ChangeSpec := { name := "filterMore", fn := fun _ => fun
  | [d1, d2] => { results := [.lit (.bool false)], args := [d1, d2] }
  | _ => none }
def FilterMoreWrongFalsely : Prop := filterMoreRow.holds Try.pinned (OpenSpec.ofChange filterMoreWrong)

/-- 'isoglosslaw20.FilterPrefix': WHATEVER THE INPUT: true; the input reads as it did. -/
def filterPrefixSpec : ChangeSpec := { name := "filterPrefix", fn := fun _ => fun
  | [d1, d2] => { results := [.lit (.bool true)], args := [d1, d2] }
  | _ => none }
def filterPrefixRow : OpenClaim := { program := "ytanahbcdilcmoaa", sum := "8041fe060c8b788e8ecae0fa1618129d1b8e4a12f8eae693e3547f52034b5767", func := "isogloss/isoglosslaw20.FilterPrefix", spec := "filterPrefix", inPlace := ["internal/bytealg.IndexByteString", "internal/bytealg.IndexString"], unfollowed := true, recurses := true, named := ["internal/bytealg.MaxLen"], apart := false }
def FilterPrefixSaid : Prop := filterPrefixRow.holds Try.pinned (OpenSpec.ofChange filterPrefixSpec)

/-- ITS FALSE NEIGHBOUR: 'it returns false'. Refute it at one input. -/
def filterPrefixWrong : ChangeSpec := { name := "filterPrefix", fn := fun _ => fun
  | [d1, d2] => { results := [.lit (.bool false)], args := [d1, d2] }
  | _ => none }
def FilterPrefixWrongFalsely : Prop := filterPrefixRow.holds Try.pinned (OpenSpec.ofChange filterPrefixWrong)

/-- 'isoglosslaw20.FilterFilters': WHATEVER THE INPUT: true; the input reads as it did. -/
def filterFiltersSpec : ChangeSpec := { name := "filterFilters", fn := fun _ => fun
  | [d1, d2] => { results := [.lit (.bool true)], args := [d1, d2] }
  | _ => none }
def filterFiltersRow : OpenClaim := { program := "ytanahbcdilcmoaa", sum := "8041fe060c8b788e8ecae0fa1618129d1b8e4a12f8eae693e3547f52034b5767", func := "isogloss/isoglosslaw20.FilterFilters", spec := "filterFilters", inPlace := ["internal/bytealg.IndexByteString", "internal/bytealg.IndexString"], unfollowed := true, recurses := true, named := ["internal/bytealg.MaxLen"], apart := false }
def FilterFiltersSaid : Prop := filterFiltersRow.holds Try.pinned (OpenSpec.ofChange filterFiltersSpec)

/-- ITS FALSE NEIGHBOUR: 'it returns false'. Refute it at one input. -/
def filterFiltersWrong : ChangeSpec := { name := "filterFilters", fn := fun _ => fun
  | [d1, d2] => { results := [.lit (.bool false)], args := [d1, d2] }
  | _ => none }
def FilterFiltersWrongFalsely : Prop := filterFiltersRow.holds Try.pinned (OpenSpec.ofChange filterFiltersWrong)

/-- 'isoglosslaw20.FilterJoins': WHATEVER THE INPUT: true; the input reads as it did. -/
def filterJoinsSpec : ChangeSpec := { name := "filterJoins", fn := fun _ => fun
  | [d1, d2, d3] => { results := [.lit (.bool true)], args := [d1, d2, d3] }
  | _ => none }
def filterJoinsRow : OpenClaim := { program := "ytanahbcdilcmoaa", sum := "8041fe060c8b788e8ecae0fa1618129d1b8e4a12f8eae693e3547f52034b5767", func := "isogloss/isoglosslaw20.FilterJoins", spec := "filterJoins", inPlace := ["internal/bytealg.IndexByteString", "internal/bytealg.IndexString"], unfollowed := true, recurses := true, named := ["internal/bytealg.MaxLen"], apart := false }
def FilterJoinsSaid : Prop := filterJoinsRow.holds Try.pinned (OpenSpec.ofChange filterJoinsSpec)

/-- ITS FALSE NEIGHBOUR: 'it returns false'. Refute it at one input. -/
def filterJoinsWrong : ChangeSpec := { name := "filterJoins", fn := fun _ => fun
  | [d1, d2, d3] => { results := [.lit (.bool false)], args := [d1, d2, d3] }
  | _ => none }
def FilterJoinsWrongFalsely : Prop := filterJoinsRow.holds Try.pinned (OpenSpec.ofChange filterJoinsWrong)

/- THE SECOND FORM. 'bulk': how many values and letters a reading holds, each counted each time it is reached (what is shared counts as often as it is met; a slice's spare places count too). A statement '..UptoSaid' is the law's where the arguments, and the package variables that the reading takes, are together of bulk at most 1048576: NARROWER than '..Said'. Prove '..Said' where nothing that the law and all that it calls make is longer than what came in: it says more and counts as full. Else prove '..UptoSaid'. A law counts once. -/
mutual
def uptoBulk {H : Type} : DataW H → Nat
  | .lit (.string bytes) => bytes.length + 1
  | .lit _ => 1
  | .nil => 1
  | .ptr d => uptoBulk d + 1
  | .slice elems spare => uptoBulkAll elems + uptoBulkAll spare + 1
  | .agg parts => uptoBulkAll parts + 1
  | .iface _ d => uptoBulk d + 1
  | .map entries => uptoBulkEntries entries + 1
  | .held _ => 1
def uptoBulkAll {H : Type} : List (DataW H) → Nat
  | [] => 0
  | d :: r => uptoBulk d + uptoBulkAll r
def uptoBulkEntries {H : Type} : List (Lit × DataW H) → Nat
  | [] => 0
  | x :: r => uptoBulkEntry x + uptoBulkEntries r
def uptoBulkEntry {H : Type} : Lit × DataW H → Nat
  | (.string bytes, d) => bytes.length + uptoBulk d + 1
  | (_, d) => uptoBulk d + 1
 end
def uptoSmall : (H : Type) → List (DataW H) → Bool := fun _ ds => decide (uptoBulkAll ds ≤ 1048576)
def OpenSpec.upto (s : _root_.Go.ChangeSpec) : _root_.Go.OpenSpec := { _root_.Go.OpenSpec.ofChange s with cond := some uptoSmall }

/-- 'isoglosslaw20.FilterTells', WHERE WHAT IT READS IS OF BULK AT MOST 1048576: true; the input reads as it did. -/
def filterTellsUptoRow : OpenClaim := { program := "ytanahbcdilcmoaa", sum := "8041fe060c8b788e8ecae0fa1618129d1b8e4a12f8eae693e3547f52034b5767", func := "isogloss/isoglosslaw20.FilterTells", spec := "filterTells", inPlace := ["internal/bytealg.IndexByteString", "internal/bytealg.IndexString"], unfollowed := true, recurses := true, named := ["internal/bytealg.MaxLen"], apart := false, narrowed := true }
def FilterTellsUptoSaid : Prop := filterTellsUptoRow.holds Try.pinned (OpenSpec.upto filterTellsSpec)

/-- 'isoglosslaw20.FilterCases', WHERE WHAT IT READS IS OF BULK AT MOST 1048576: true; the input reads as it did. -/
def filterCasesUptoRow : OpenClaim := { program := "ytanahbcdilcmoaa", sum := "8041fe060c8b788e8ecae0fa1618129d1b8e4a12f8eae693e3547f52034b5767", func := "isogloss/isoglosslaw20.FilterCases", spec := "filterCases", inPlace := ["internal/bytealg.IndexByteString", "internal/bytealg.IndexString"], unfollowed := true, recurses := true, named := ["internal/bytealg.MaxLen"], apart := false, narrowed := true }
def FilterCasesUptoSaid : Prop := filterCasesUptoRow.holds Try.pinned (OpenSpec.upto filterCasesSpec)

/-- 'isoglosslaw20.FilterMore', WHERE WHAT IT READS IS OF BULK AT MOST 1048576: true; the input reads as it did. -/
def filterMoreUptoRow : OpenClaim := { program := "ytanahbcdilcmoaa", sum := "8041fe060c8b788e8ecae0fa1618129d1b8e4a12f8eae693e3547f52034b5767", func := "isogloss/isoglosslaw20.FilterMore", spec := "filterMore", inPlace := ["internal/bytealg.IndexByteString", "internal/bytealg.IndexString"], unfollowed := true, recurses := true, named := ["internal/bytealg.MaxLen"], apart := false, narrowed := true }
def FilterMoreUptoSaid : Prop := filterMoreUptoRow.holds Try.pinned (OpenSpec.upto filterMoreSpec)

/-- 'isoglosslaw20.FilterPrefix', WHERE WHAT IT READS IS OF BULK AT MOST 1048576: true; the input reads as it did. -/
def filterPrefixUptoRow : OpenClaim := { program := "ytanahbcdilcmoaa", sum := "8041fe060c8b788e8ecae0fa1618129d1b8e4a12f8eae693e3547f52034b5767", func := "isogloss/isoglosslaw20.FilterPrefix", spec := "filterPrefix", inPlace := ["internal/bytealg.IndexByteString", "internal/bytealg.IndexString"], unfollowed := true, recurses := true, named := ["internal/bytealg.MaxLen"], apart := false, narrowed := true }
def FilterPrefixUptoSaid : Prop := filterPrefixUptoRow.holds Try.pinned (OpenSpec.upto filterPrefixSpec)

/-- 'isoglosslaw20.FilterFilters', WHERE WHAT IT READS IS OF BULK AT MOST 1048576: true; the input reads as it did. -/
def filterFiltersUptoRow : OpenClaim := { program := "ytanahbcdilcmoaa", sum := "8041fe060c8b788e8ecae0fa1618129d1b8e4a12f8eae693e3547f52034b5767", func := "isogloss/isoglosslaw20.FilterFilters", spec := "filterFilters", inPlace := ["internal/bytealg.IndexByteString", "internal/bytealg.IndexString"], unfollowed := true, recurses := true, named := ["internal/bytealg.MaxLen"], apart := false, narrowed := true }
def FilterFiltersUptoSaid : Prop := filterFiltersUptoRow.holds Try.pinned (OpenSpec.upto filterFiltersSpec)

/-- 'isoglosslaw20.FilterJoins', WHERE WHAT IT READS IS OF BULK AT MOST 1048576: true; the input reads as it did. -/
def filterJoinsUptoRow : OpenClaim := { program := "ytanahbcdilcmoaa", sum := "8041fe060c8b788e8ecae0fa1618129d1b8e4a12f8eae693e3547f52034b5767", func := "isogloss/isoglosslaw20.FilterJoins", spec := "filterJoins", inPlace := ["internal/bytealg.IndexByteString", "internal/bytealg.IndexString"], unfollowed := true, recurses := true, named := ["internal/bytealg.MaxLen"], apart := false, narrowed := true }
def FilterJoinsUptoSaid : Prop := filterJoinsUptoRow.holds Try.pinned (OpenSpec.upto filterJoinsSpec)

end Rows
end Go.Proofs.Ytanahbcdilcmoaa
