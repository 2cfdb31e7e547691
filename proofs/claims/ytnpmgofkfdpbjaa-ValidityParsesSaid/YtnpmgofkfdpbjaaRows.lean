/-
  No cell of these rows narrows 'for every input' (looked for: loops, veiled, ifaces, maps, wideKeys, modest, calm, conditions, laid).
  DERIVED. THE GIVEN ROWS OF THIS SEAT. 16 by the template 'for every input the law returns true; each argument reads behind the call as it read before'; 0 by the template 'total and deterministic' (their statements: YtnpmgofkfdpbjaaTotals.lean).
  GIVEN WITH THE SEED: the statements are not yours to turn. If you find one false, say at which input.
  Laid BY PROGRAM, IN A SANDBOX (cutbox-rows.mjs): the forced cells as the released guide's own fill.sh prints them over the translation 18c3402e6e9723bd… (all of the seat's roots in one cut). By AI agents, Wed Nov 11 2026. No macro, syntax, notation, axiom, sorry.
-/
import Derived.Test.YtnpmgofkfdpbjaaChecked
import GoSem.Claim
import GoSem.ClaimJoined
import GoSem.ClaimMapViews
import Derived.JoinedTies
import Derived.KernelRfl
namespace Go.Proofs.Ytnpmgofkfdpbjaa
/- THE CELL 'sum', in the pinned program and in every row, IS THE sha256 OF THE DUMP (.gsa) THAT YtnpmgofkfdpbjaaProg.lean LOADS. Nothing in Lean hashes anything: it is a label: what it is worth is what the hold of that sum in a sandbox is worth. -/
noncomputable def Try.pinned : Pinned := { name := "ytnpmgofkfdpbjaa", sum := "18c3402e6e9723bd7e771a3671d1913b5e8b6512774e0e7442ed21acce879eb8", checked := Try.checked }
namespace Rows
def none {H : Type} : Left H := { results := [], args := [] }

/-- 'cretulalaw21.EntryNames': WHATEVER THE INPUT: true; the input reads as it did. -/
def entryNamesSpec : ChangeSpec := { name := "entryNames", fn := fun _ => fun
  | [d1, d2] => { results := [.lit (.bool true)], args := [d1, d2] }
  | _ => none }
def entryNamesRow : OpenClaim := { program := "ytnpmgofkfdpbjaa", sum := "18c3402e6e9723bd7e771a3671d1913b5e8b6512774e0e7442ed21acce879eb8", func := "cretula/cretulalaw21.EntryNames", spec := "entryNames", apart := false }
def EntryNamesSaid : Prop := entryNamesRow.holds Try.pinned (OpenSpec.ofChange entryNamesSpec)

/-- ITS FALSE NEIGHBOUR: 'it returns false'. Refute it at one input. -/
def entryNamesWrong : ChangeSpec := { name := "entryNames", fn := fun _ => fun
  | [d1, d2] => { results := [.lit (.bool false)], args := [d1, d2] }
  | _ => none }
def EntryNamesWrongFalsely : Prop := entryNamesRow.holds Try.pinned (OpenSpec.ofChange entryNamesWrong)

/-- 'cretulalaw24.ValidityTimes': WHATEVER THE INPUT: true; the input reads as it did. -/
def validityTimesSpec : ChangeSpec := { name := "validityTimes", fn := fun _ => fun
  | [d] => { results := [.lit (.bool true)], args := [d] }
  | _ => none }
def validityTimesRow : OpenClaim := { program := "ytnpmgofkfdpbjaa", sum := "18c3402e6e9723bd7e771a3671d1913b5e8b6512774e0e7442ed21acce879eb8", func := "cretula/cretulalaw24.ValidityTimes", spec := "validityTimes", unfollowed := true, recurses := true, apart := false }
def ValidityTimesSaid : Prop := validityTimesRow.holds Try.pinned (OpenSpec.ofChange validityTimesSpec)

/-- ITS FALSE NEIGHBOUR: 'it returns false'. Refute it at one input. -/
def validityTimesWrong : ChangeSpec := { name := "validityTimes", fn := fun _ => fun
  | [d] => { results := [.lit (.bool false)], args := [d] }
  | _ => none }
def ValidityTimesWrongFalsely : Prop := validityTimesRow.holds Try.pinned (OpenSpec.ofChange validityTimesWrong)

/-- 'cretulalaw21.EntryReasons': WHATEVER THE INPUT: true; the input reads as it did. -/
def entryReasonsSpec : ChangeSpec := { name := "entryReasons", fn := fun _ => fun
  | [d1, d2] => { results := [.lit (.bool true)], args := [d1, d2] }
  | _ => none }
def entryReasonsRow : OpenClaim := { program := "ytnpmgofkfdpbjaa", sum := "18c3402e6e9723bd7e771a3671d1913b5e8b6512774e0e7442ed21acce879eb8", func := "cretula/cretulalaw21.EntryReasons", spec := "entryReasons", unfollowed := true, recurses := true, apart := false }
def EntryReasonsSaid : Prop := entryReasonsRow.holds Try.pinned (OpenSpec.ofChange entryReasonsSpec)

/-- ITS FALSE NEIGHBOUR: 'it returns false'. Refute it at one input. -/
def entryReasonsWrong : ChangeSpec := { name := "entryReasons", fn := fun _ => fun
  | [d1, d2] => { results := [.lit (.bool false)], args := [d1, d2] }
  | _ => none }
def EntryReasonsWrongFalsely : Prop := entryReasonsRow.holds Try.pinned (OpenSpec.ofChange entryReasonsWrong)

/-- 'cretulalaw21.EntryDates': WHATEVER THE INPUT: true; the input reads as it did. -/
def entryDatesSpec : ChangeSpec := { name := "entryDates", fn := fun _ => fun
  | [d1, d2] => { results := [.lit (.bool true)], args := [d1, d2] }
  | _ => none }
def entryDatesRow : OpenClaim := { program := "ytnpmgofkfdpbjaa", sum := "18c3402e6e9723bd7e771a3671d1913b5e8b6512774e0e7442ed21acce879eb8", func := "cretula/cretulalaw21.EntryDates", spec := "entryDates", unfollowed := true, recurses := true, apart := false }
def EntryDatesSaid : Prop := entryDatesRow.holds Try.pinned (OpenSpec.ofChange entryDatesSpec)

/-- ITS FALSE NEIGHBOUR: 'it returns false'. Refute it at one input. -/
def entryDatesWrong : ChangeSpec := { name := "entryDates", fn := fun _ => fun
  | [d1, d2] => { results := [.lit (.bool false)], args := [d1, d2] }
  | _ => none }
def EntryDatesWrongFalsely : Prop := entryDatesRow.holds Try.pinned (OpenSpec.ofChange entryDatesWrong)

/-- 'cretulalaw16.BasicMarshals': WHATEVER THE INPUT: true; the input reads as it did. -/
def basicMarshalsSpec : ChangeSpec := { name := "basicMarshals", fn := fun _ => fun
  | [d] => { results := [.lit (.bool true)], args := [d] }
  | _ => none }
def basicMarshalsRow : OpenClaim := { program := "ytnpmgofkfdpbjaa", sum := "18c3402e6e9723bd7e771a3671d1913b5e8b6512774e0e7442ed21acce879eb8", func := "cretula/cretulalaw16.BasicMarshals", spec := "basicMarshals", unfollowed := true, recurses := true, apart := false }
def BasicMarshalsSaid : Prop := basicMarshalsRow.holds Try.pinned (OpenSpec.ofChange basicMarshalsSpec)

/-- ITS FALSE NEIGHBOUR: 'it returns false'. Refute it at one input. -/
def basicMarshalsWrong : ChangeSpec := { name := "basicMarshals", fn := fun _ => fun
  | [d] => { results := [.lit (.bool false)], args := [d] }
  | _ => none }
def BasicMarshalsWrongFalsely : Prop := basicMarshalsRow.holds Try.pinned (OpenSpec.ofChange basicMarshalsWrong)

/-- 'cretulalaw16.BasicParses': WHATEVER THE INPUT: true; the input reads as it did. -/
def basicParsesSpec : ChangeSpec := { name := "basicParses", fn := fun _ => fun
  | [d] => { results := [.lit (.bool true)], args := [d] }
  | _ => none }
def basicParsesRow : OpenClaim := { program := "ytnpmgofkfdpbjaa", sum := "18c3402e6e9723bd7e771a3671d1913b5e8b6512774e0e7442ed21acce879eb8", func := "cretula/cretulalaw16.BasicParses", spec := "basicParses", unfollowed := true, recurses := true, apart := false }
def BasicParsesSaid : Prop := basicParsesRow.holds Try.pinned (OpenSpec.ofChange basicParsesSpec)

/-- ITS FALSE NEIGHBOUR: 'it returns false'. Refute it at one input. -/
def basicParsesWrong : ChangeSpec := { name := "basicParses", fn := fun _ => fun
  | [d] => { results := [.lit (.bool false)], args := [d] }
  | _ => none }
def BasicParsesWrongFalsely : Prop := basicParsesRow.holds Try.pinned (OpenSpec.ofChange basicParsesWrong)

/-- 'cretulalaw16.BasicChanges': WHATEVER THE INPUT: true; the input reads as it did. -/
def basicChangesSpec : ChangeSpec := { name := "basicChanges", fn := fun _ => fun
  | [d1, d2, d3] => { results := [.lit (.bool true)], args := [d1, d2, d3] }
  | _ => none }
def basicChangesRow : OpenClaim := { program := "ytnpmgofkfdpbjaa", sum := "18c3402e6e9723bd7e771a3671d1913b5e8b6512774e0e7442ed21acce879eb8", func := "cretula/cretulalaw16.BasicChanges", spec := "basicChanges", unfollowed := true, recurses := true, apart := false }
def BasicChangesSaid : Prop := basicChangesRow.holds Try.pinned (OpenSpec.ofChange basicChangesSpec)

/-- ITS FALSE NEIGHBOUR: 'it returns false'. Refute it at one input. -/
def basicChangesWrong : ChangeSpec := { name := "basicChanges", fn := fun _ => fun
  | [d1, d2, d3] => { results := [.lit (.bool false)], args := [d1, d2, d3] }
  | _ => none }
def BasicChangesWrongFalsely : Prop := basicChangesRow.holds Try.pinned (OpenSpec.ofChange basicChangesWrong)

/-- 'cretulalaw24.ValidityParses': WHATEVER THE INPUT: true; the input reads as it did. -/
def validityParsesSpec : ChangeSpec := { name := "validityParses", fn := fun _ => fun
  | [d] => { results := [.lit (.bool true)], args := [d] }
  | _ => none }
def validityParsesRow : OpenClaim := { program := "ytnpmgofkfdpbjaa", sum := "18c3402e6e9723bd7e771a3671d1913b5e8b6512774e0e7442ed21acce879eb8", func := "cretula/cretulalaw24.ValidityParses", spec := "validityParses", unfollowed := true, recurses := true, apart := false }
def ValidityParsesSaid : Prop := validityParsesRow.holds Try.pinned (OpenSpec.ofChange validityParsesSpec)

/-- ITS FALSE NEIGHBOUR: 'it returns false'. Refute it at one input. -/
def validityParsesWrong : ChangeSpec := { name := "validityParses", fn := fun _ => fun
  | [d] => { results := [.lit (.bool false)], args := [d] }
  | _ => none }
def ValidityParsesWrongFalsely : Prop := validityParsesRow.holds Try.pinned (OpenSpec.ofChange validityParsesWrong)

/-- 'cretulalaw24.ValidityPairs': WHATEVER THE INPUT: true; the input reads as it did. -/
def validityPairsSpec : ChangeSpec := { name := "validityPairs", fn := fun _ => fun
  | [d1, d2] => { results := [.lit (.bool true)], args := [d1, d2] }
  | _ => none }
def validityPairsRow : OpenClaim := { program := "ytnpmgofkfdpbjaa", sum := "18c3402e6e9723bd7e771a3671d1913b5e8b6512774e0e7442ed21acce879eb8", func := "cretula/cretulalaw24.ValidityPairs", spec := "validityPairs", unfollowed := true, recurses := true, apart := false }
def ValidityPairsSaid : Prop := validityPairsRow.holds Try.pinned (OpenSpec.ofChange validityPairsSpec)

/-- ITS FALSE NEIGHBOUR: 'it returns false'. Refute it at one input. -/
def validityPairsWrong : ChangeSpec := { name := "validityPairs", fn := fun _ => fun
  | [d1, d2] => { results := [.lit (.bool false)], args := [d1, d2] }
  | _ => none }
def ValidityPairsWrongFalsely : Prop := validityPairsRow.holds Try.pinned (OpenSpec.ofChange validityPairsWrong)

/-- 'cretulalaw24.ValidityContains': WHATEVER THE INPUT: true; the input reads as it did. -/
def validityContainsSpec : ChangeSpec := { name := "validityContains", fn := fun _ => fun
  | [d1, d2, d3] => { results := [.lit (.bool true)], args := [d1, d2, d3] }
  | _ => none }
def validityContainsRow : OpenClaim := { program := "ytnpmgofkfdpbjaa", sum := "18c3402e6e9723bd7e771a3671d1913b5e8b6512774e0e7442ed21acce879eb8", func := "cretula/cretulalaw24.ValidityContains", spec := "validityContains", unfollowed := true, recurses := true, apart := false }
def ValidityContainsSaid : Prop := validityContainsRow.holds Try.pinned (OpenSpec.ofChange validityContainsSpec)

/-- ITS FALSE NEIGHBOUR: 'it returns false'. Refute it at one input. -/
def validityContainsWrong : ChangeSpec := { name := "validityContains", fn := fun _ => fun
  | [d1, d2, d3] => { results := [.lit (.bool false)], args := [d1, d2, d3] }
  | _ => none }
def ValidityContainsWrongFalsely : Prop := validityContainsRow.holds Try.pinned (OpenSpec.ofChange validityContainsWrong)

/-- 'cretulalaw16.BasicSkipMarshals': WHATEVER THE INPUT: true; the input reads as it did. -/
def basicSkipMarshalsSpec : ChangeSpec := { name := "basicSkipMarshals", fn := fun _ => fun
  | [d] => { results := [.lit (.bool true)], args := [d] }
  | _ => none }
def basicSkipMarshalsRow : OpenClaim := { program := "ytnpmgofkfdpbjaa", sum := "18c3402e6e9723bd7e771a3671d1913b5e8b6512774e0e7442ed21acce879eb8", func := "cretula/cretulalaw16.BasicSkipMarshals", spec := "basicSkipMarshals", unfollowed := true, recurses := true, apart := false }
def BasicSkipMarshalsSaid : Prop := basicSkipMarshalsRow.holds Try.pinned (OpenSpec.ofChange basicSkipMarshalsSpec)

/-- ITS FALSE NEIGHBOUR: 'it returns false'. Refute it at one input. -/
def basicSkipMarshalsWrong : ChangeSpec := { name := "basicSkipMarshals", fn := fun _ => fun
  | [d] => { results := [.lit (.bool false)], args := [d] }
  | _ => none }
def BasicSkipMarshalsWrongFalsely : Prop := basicSkipMarshalsRow.holds Try.pinned (OpenSpec.ofChange basicSkipMarshalsWrong)

/-- 'cretulalaw16.BasicSkipParses': WHATEVER THE INPUT: true; the input reads as it did. -/
def basicSkipParsesSpec : ChangeSpec := { name := "basicSkipParses", fn := fun _ => fun
  | [d] => { results := [.lit (.bool true)], args := [d] }
  | _ => none }
def basicSkipParsesRow : OpenClaim := { program := "ytnpmgofkfdpbjaa", sum := "18c3402e6e9723bd7e771a3671d1913b5e8b6512774e0e7442ed21acce879eb8", func := "cretula/cretulalaw16.BasicSkipParses", spec := "basicSkipParses", unfollowed := true, recurses := true, apart := false }
def BasicSkipParsesSaid : Prop := basicSkipParsesRow.holds Try.pinned (OpenSpec.ofChange basicSkipParsesSpec)

/-- ITS FALSE NEIGHBOUR: 'it returns false'. Refute it at one input. -/
def basicSkipParsesWrong : ChangeSpec := { name := "basicSkipParses", fn := fun _ => fun
  | [d] => { results := [.lit (.bool false)], args := [d] }
  | _ => none }
def BasicSkipParsesWrongFalsely : Prop := basicSkipParsesRow.holds Try.pinned (OpenSpec.ofChange basicSkipParsesWrong)

/-- 'cretulalaw16.BasicSkipChanges': WHATEVER THE INPUT: true; the input reads as it did. -/
def basicSkipChangesSpec : ChangeSpec := { name := "basicSkipChanges", fn := fun _ => fun
  | [d1, d2, d3] => { results := [.lit (.bool true)], args := [d1, d2, d3] }
  | _ => none }
def basicSkipChangesRow : OpenClaim := { program := "ytnpmgofkfdpbjaa", sum := "18c3402e6e9723bd7e771a3671d1913b5e8b6512774e0e7442ed21acce879eb8", func := "cretula/cretulalaw16.BasicSkipChanges", spec := "basicSkipChanges", unfollowed := true, recurses := true, apart := false }
def BasicSkipChangesSaid : Prop := basicSkipChangesRow.holds Try.pinned (OpenSpec.ofChange basicSkipChangesSpec)

/-- ITS FALSE NEIGHBOUR: 'it returns false'. Refute it at one input. -/
def basicSkipChangesWrong : ChangeSpec := { name := "basicSkipChanges", fn := fun _ => fun
  | [d1, d2, d3] => { results := [.lit (.bool false)], args := [d1, d2, d3] }
  | _ => none }
def BasicSkipChangesWrongFalsely : Prop := basicSkipChangesRow.holds Try.pinned (OpenSpec.ofChange basicSkipChangesWrong)

/-- 'cretulalaw16.BasicSkipEnds': WHATEVER THE INPUT: true; the input reads as it did. -/
def basicSkipEndsSpec : ChangeSpec := { name := "basicSkipEnds", fn := fun _ => fun
  | [d1, d2, d3] => { results := [.lit (.bool true)], args := [d1, d2, d3] }
  | _ => none }
def basicSkipEndsRow : OpenClaim := { program := "ytnpmgofkfdpbjaa", sum := "18c3402e6e9723bd7e771a3671d1913b5e8b6512774e0e7442ed21acce879eb8", func := "cretula/cretulalaw16.BasicSkipEnds", spec := "basicSkipEnds", unfollowed := true, recurses := true, apart := false }
def BasicSkipEndsSaid : Prop := basicSkipEndsRow.holds Try.pinned (OpenSpec.ofChange basicSkipEndsSpec)

/-- ITS FALSE NEIGHBOUR: 'it returns false'. Refute it at one input. -/
def basicSkipEndsWrong : ChangeSpec := { name := "basicSkipEnds", fn := fun _ => fun
  | [d1, d2, d3] => { results := [.lit (.bool false)], args := [d1, d2, d3] }
  | _ => none }
def BasicSkipEndsWrongFalsely : Prop := basicSkipEndsRow.holds Try.pinned (OpenSpec.ofChange basicSkipEndsWrong)

/-- 'cretulalaw16.BasicNumbers': WHATEVER THE INPUT: true; the input reads as it did. -/
def basicNumbersSpec : ChangeSpec := { name := "basicNumbers", fn := fun _ => fun
  | [d1, d2] => { results := [.lit (.bool true)], args := [d1, d2] }
  | _ => none }
def basicNumbersRow : OpenClaim := { program := "ytnpmgofkfdpbjaa", sum := "18c3402e6e9723bd7e771a3671d1913b5e8b6512774e0e7442ed21acce879eb8", func := "cretula/cretulalaw16.BasicNumbers", spec := "basicNumbers", unfollowed := true, recurses := true, apart := false }
def BasicNumbersSaid : Prop := basicNumbersRow.holds Try.pinned (OpenSpec.ofChange basicNumbersSpec)

/-- ITS FALSE NEIGHBOUR: 'it returns false'. Refute it at one input. -/
def basicNumbersWrong : ChangeSpec := { name := "basicNumbers", fn := fun _ => fun
  | [d1, d2] => { results := [.lit (.bool false)], args := [d1, d2] }
  | _ => none }
def BasicNumbersWrongFalsely : Prop := basicNumbersRow.holds Try.pinned (OpenSpec.ofChange basicNumbersWrong)

/-- 'cretulalaw16.BasicIntegers': WHATEVER THE INPUT: true; the input reads as it did. -/
def basicIntegersSpec : ChangeSpec := { name := "basicIntegers", fn := fun _ => fun
  | [d] => { results := [.lit (.bool true)], args := [d] }
  | _ => none }
def basicIntegersRow : OpenClaim := { program := "ytnpmgofkfdpbjaa", sum := "18c3402e6e9723bd7e771a3671d1913b5e8b6512774e0e7442ed21acce879eb8", func := "cretula/cretulalaw16.BasicIntegers", spec := "basicIntegers", unfollowed := true, recurses := true, apart := false }
def BasicIntegersSaid : Prop := basicIntegersRow.holds Try.pinned (OpenSpec.ofChange basicIntegersSpec)

/-- ITS FALSE NEIGHBOUR: 'it returns false'. Refute it at one input. -/
def basicIntegersWrong : ChangeSpec := { name := "basicIntegers", fn := fun _ => fun
  | [d] => { results := [.lit (.bool false)], args := [d] }
  | _ => none }
def BasicIntegersWrongFalsely : Prop := basicIntegersRow.holds Try.pinned (OpenSpec.ofChange basicIntegersWrong)

/- THE SECOND FORM. 'bulk': how many values and letters a reading holds, each counted each time it is reached (what is shared counts as often as it is met; a slice's spare places count too). A statement '..UptoSaid' is the law's where the arguments, and the package variables that the reading takes, are together of bulk at most 1048576: NARROWER than '..Said'. Prove '..Said' where nothing that the law and all that it calls make is longer than what came in: it says more and counts as full. Else prove '..UptoSaid'. A law counts once. -/
mutual
def uptoBulk {H : Type} : DataW H → Nat
  | .lit (.string bytes) => bytes.length + 1
  | .lit _ => 1
  | .nil => 1
  | .ptr d => uptoBulk d + 1
  | .slice elems spare => uptoBulkAll elems + uptoBulkAll spare + 1
  | .agg parts => uptoBulkAll parts + 1
  | .iface _ d => uptoBulk d + 1
  | .map entries => uptoBulkEntries entries + 1
  | .held _ => 1
def uptoBulkAll {H : Type} : List (DataW H) → Nat
  | [] => 0
  | d :: r => uptoBulk d + uptoBulkAll r
def uptoBulkEntries {H : Type} : List (Lit × DataW H) → Nat
  | [] => 0
  | x :: r => uptoBulkEntry x + uptoBulkEntries r
def uptoBulkEntry {H : Type} : Lit × DataW H → Nat
  | (.string bytes, d) => bytes.length + uptoBulk d + 1
  | (_, d) => uptoBulk d + 1
 end
def uptoSmall : (H : Type) → List (DataW H) → Bool := fun _ ds => decide (uptoBulkAll ds ≤ 1048576)
def OpenSpec.upto (s : _root_.Go.ChangeSpec) : _root_.Go.OpenSpec := { _root_.Go.OpenSpec.ofChange s with cond := some uptoSmall }

/-- 'cretulalaw21.EntryNames', WHERE WHAT IT READS IS OF BULK AT MOST 1048576: true; the input reads as it did. -/
def entryNamesUptoRow : OpenClaim := { program := "ytnpmgofkfdpbjaa", sum := "18c3402e6e9723bd7e771a3671d1913b5e8b6512774e0e7442ed21acce879eb8", func := "cretula/cretulalaw21.EntryNames", spec := "entryNames", apart := false, narrowed := true }
def EntryNamesUptoSaid : Prop := entryNamesUptoRow.holds Try.pinned (OpenSpec.upto entryNamesSpec)

/-- 'cretulalaw24.ValidityTimes', WHERE WHAT IT READS IS OF BULK AT MOST 1048576: true; the input reads as it did. -/
def validityTimesUptoRow : OpenClaim := { program := "ytnpmgofkfdpbjaa", sum := "18c3402e6e9723bd7e771a3671d1913b5e8b6512774e0e7442ed21acce879eb8", func := "cretula/cretulalaw24.ValidityTimes", spec := "validityTimes", unfollowed := true, recurses := true, apart := false, narrowed := true }
def ValidityTimesUptoSaid : Prop := validityTimesUptoRow.holds Try.pinned (OpenSpec.upto validityTimesSpec)

/-- 'cretulalaw21.EntryReasons', WHERE WHAT IT READS IS OF BULK AT MOST 1048576: true; the input reads as it did. -/
def entryReasonsUptoRow : OpenClaim := { program := "ytnpmgofkfdpbjaa", sum := "18c3402e6e9723bd7e771a3671d1913b5e8b6512774e0e7442ed21acce879eb8", func := "cretula/cretulalaw21.EntryReasons", spec := "entryReasons", unfollowed := true, recurses := true, apart := false, narrowed := true }
def EntryReasonsUptoSaid : Prop := entryReasonsUptoRow.holds Try.pinned (OpenSpec.upto entryReasonsSpec)

/-- 'cretulalaw21.EntryDates', WHERE WHAT IT READS IS OF BULK AT MOST 1048576: true; the input reads as it did. -/
def entryDatesUptoRow : OpenClaim := { program := "ytnpmgofkfdpbjaa", sum := "18c3402e6e9723bd7e771a3671d1913b5e8b6512774e0e7442ed21acce879eb8", func := "cretula/cretulalaw21.EntryDates", spec := "entryDates", unfollowed := true, recurses := true, apart := false, narrowed := true }
def EntryDatesUptoSaid : Prop := entryDatesUptoRow.holds Try.pinned (OpenSpec.upto entryDatesSpec)

/-- 'cretulalaw16.BasicMarshals', WHERE WHAT IT READS IS OF BULK AT MOST 1048576: true; the input reads as it did. -/
def basicMarshalsUptoRow : OpenClaim := { program := "ytnpmgofkfdpbjaa", sum := "18c3402e6e9723bd7e771a3671d1913b5e8b6512774e0e7442ed21acce879eb8", func := "cretula/cretulalaw16.BasicMarshals", spec := "basicMarshals", unfollowed := true, recurses := true, apart := false, narrowed := true }
def BasicMarshalsUptoSaid : Prop := basicMarshalsUptoRow.holds Try.pinned (OpenSpec.upto basicMarshalsSpec)

/-- 'cretulalaw16.BasicParses', WHERE WHAT IT READS IS OF BULK AT MOST 1048576: true; the input reads as it did. -/
def basicParsesUptoRow : OpenClaim := { program := "ytnpmgofkfdpbjaa", sum := "18c3402e6e9723bd7e771a3671d1913b5e8b6512774e0e7442ed21acce879eb8", func := "cretula/cretulalaw16.BasicParses", spec := "basicParses", unfollowed := true, recurses := true, apart := false, narrowed := true }
def BasicParsesUptoSaid : Prop := basicParsesUptoRow.holds Try.pinned (OpenSpec.upto basicParsesSpec)

/-- 'cretulalaw16.BasicChanges', WHERE WHAT IT READS IS OF BULK AT MOST 1048576: true; the input reads as it did. -/
def basicChangesUptoRow : OpenClaim := { program := "ytnpmgofkfdpbjaa", sum := "18c3402e6e9723bd7e771a3671d1913b5e8b6512774e0e7442ed21acce879eb8", func := "cretula/cretulalaw16.BasicChanges", spec := "basicChanges", unfollowed := true, recurses := true, apart := false, narrowed := true }
def BasicChangesUptoSaid : Prop := basicChangesUptoRow.holds Try.pinned (OpenSpec.upto basicChangesSpec)

/-- 'cretulalaw24.ValidityParses', WHERE WHAT IT READS IS OF BULK AT MOST 1048576: true; the input reads as it did. -/
def validityParsesUptoRow : OpenClaim := { program := "ytnpmgofkfdpbjaa", sum := "18c3402e6e9723bd7e771a3671d1913b5e8b6512774e0e7442ed21acce879eb8", func := "cretula/cretulalaw24.ValidityParses", spec := "validityParses", unfollowed := true, recurses := true, apart := false, narrowed := true }
def ValidityParsesUptoSaid : Prop := validityParsesUptoRow.holds Try.pinned (OpenSpec.upto validityParsesSpec)

/-- 'cretulalaw24.ValidityPairs', WHERE WHAT IT READS IS OF BULK AT MOST 1048576: true; the input reads as it did. -/
def validityPairsUptoRow : OpenClaim := { program := "ytnpmgofkfdpbjaa", sum := "18c3402e6e9723bd7e771a3671d1913b5e8b6512774e0e7442ed21acce879eb8", func := "cretula/cretulalaw24.ValidityPairs", spec := "validityPairs", unfollowed := true, recurses := true, apart := false, narrowed := true }
def ValidityPairsUptoSaid : Prop := validityPairsUptoRow.holds Try.pinned (OpenSpec.upto validityPairsSpec)

/-- 'cretulalaw24.ValidityContains', WHERE WHAT IT READS IS OF BULK AT MOST 1048576: true; the input reads as it did. -/
def validityContainsUptoRow : OpenClaim := { program := "ytnpmgofkfdpbjaa", sum := "18c3402e6e9723bd7e771a3671d1913b5e8b6512774e0e7442ed21acce879eb8", func := "cretula/cretulalaw24.ValidityContains", spec := "validityContains", unfollowed := true, recurses := true, apart := false, narrowed := true }
def ValidityContainsUptoSaid : Prop := validityContainsUptoRow.holds Try.pinned (OpenSpec.upto validityContainsSpec)

/-- 'cretulalaw16.BasicSkipMarshals', WHERE WHAT IT READS IS OF BULK AT MOST 1048576: true; the input reads as it did. -/
def basicSkipMarshalsUptoRow : OpenClaim := { program := "ytnpmgofkfdpbjaa", sum := "18c3402e6e9723bd7e771a3671d1913b5e8b6512774e0e7442ed21acce879eb8", func := "cretula/cretulalaw16.BasicSkipMarshals", spec := "basicSkipMarshals", unfollowed := true, recurses := true, apart := false, narrowed := true }
def BasicSkipMarshalsUptoSaid : Prop := basicSkipMarshalsUptoRow.holds Try.pinned (OpenSpec.upto basicSkipMarshalsSpec)

/-- 'cretulalaw16.BasicSkipParses', WHERE WHAT IT READS IS OF BULK AT MOST 1048576: true; the input reads as it did. -/
def basicSkipParsesUptoRow : OpenClaim := { program := "ytnpmgofkfdpbjaa", sum := "18c3402e6e9723bd7e771a3671d1913b5e8b6512774e0e7442ed21acce879eb8", func := "cretula/cretulalaw16.BasicSkipParses", spec := "basicSkipParses", unfollowed := true, recurses := true, apart := false, narrowed := true }
def BasicSkipParsesUptoSaid : Prop := basicSkipParsesUptoRow.holds Try.pinned (OpenSpec.upto basicSkipParsesSpec)

/-- 'cretulalaw16.BasicSkipChanges', WHERE WHAT IT READS IS OF BULK AT MOST 1048576: true; the input reads as it did. -/
def basicSkipChangesUptoRow : OpenClaim := { program := "ytnpmgofkfdpbjaa", sum := "18c3402e6e9723bd7e771a3671d1913b5e8b6512774e0e7442ed21acce879eb8", func := "cretula/cretulalaw16.BasicSkipChanges", spec := "basicSkipChanges", unfollowed := true, recurses := true, apart := false, narrowed := true }
def BasicSkipChangesUptoSaid : Prop := basicSkipChangesUptoRow.holds Try.pinned (OpenSpec.upto basicSkipChangesSpec)

/-- 'cretulalaw16.BasicSkipEnds', WHERE WHAT IT READS IS OF BULK AT MOST 1048576: true; the input reads as it did. -/
def basicSkipEndsUptoRow : OpenClaim := { program := "ytnpmgofkfdpbjaa", sum := "18c3402e6e9723bd7e771a3671d1913b5e8b6512774e0e7442ed21acce879eb8", func := "cretula/cretulalaw16.BasicSkipEnds", spec := "basicSkipEnds", unfollowed := true, recurses := true, apart := false, narrowed := true }
def BasicSkipEndsUptoSaid : Prop := basicSkipEndsUptoRow.holds Try.pinned (OpenSpec.upto basicSkipEndsSpec)

/-- 'cretulalaw16.BasicNumbers', WHERE WHAT IT READS IS OF BULK AT MOST 1048576: true; the input reads as it did. -/
def basicNumbersUptoRow : OpenClaim := { program := "ytnpmgofkfdpbjaa", sum := "18c3402e6e9723bd7e771a3671d1913b5e8b6512774e0e7442ed21acce879eb8", func := "cretula/cretulalaw16.BasicNumbers", spec := "basicNumbers", unfollowed := true, recurses := true, apart := false, narrowed := true }
def BasicNumbersUptoSaid : Prop := basicNumbersUptoRow.holds Try.pinned (OpenSpec.upto basicNumbersSpec)

/-- 'cretulalaw16.BasicIntegers', WHERE WHAT IT READS IS OF BULK AT MOST 1048576: true; the input reads as it did. -/
def basicIntegersUptoRow : OpenClaim := { program := "ytnpmgofkfdpbjaa", sum := "18c3402e6e9723bd7e771a3671d1913b5e8b6512774e0e7442ed21acce879eb8", func := "cretula/cretulalaw16.BasicIntegers", spec := "basicIntegers", unfollowed := true, recurses := true, apart := false, narrowed := true }
def BasicIntegersUptoSaid : Prop := basicIntegersUptoRow.holds Try.pinned (OpenSpec.upto basicIntegersSpec)

end Rows
end Go.Proofs.Ytnpmgofkfdpbjaa
