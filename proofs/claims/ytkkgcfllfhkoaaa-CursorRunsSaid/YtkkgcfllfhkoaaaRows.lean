/-
  No cell of these rows narrows 'for every input' (looked for: loops, veiled, ifaces, maps, wideKeys, modest, calm, conditions, laid).
  DERIVED. THE GIVEN ROWS OF THIS SEAT. 10 by the template 'for every input the law returns true; each argument reads behind the call as it read before'; 0 by the template 'total and deterministic' (their statements: YtkkgcfllfhkoaaaTotals.lean).
  GIVEN WITH THE SEED: the statements are not yours to turn. If you find one false, say at which input.
  Laid BY PROGRAM, IN A SANDBOX (cutbox-rows.mjs): the forced cells as the released guide's own fill.sh prints them over the translation b5b3da225d99d63d… (all of the seat's roots in one cut). By AI agents, Wed Nov 11 2026. No macro, syntax, notation, axiom, sorry.
-/
import Derived.Test.YtkkgcfllfhkoaaaChecked
import GoSem.Claim
import GoSem.ClaimJoined
import GoSem.ClaimMapViews
import Derived.JoinedTies
import Derived.KernelRfl
namespace Go.Proofs.Ytkkgcfllfhkoaaa
/- THE CELL 'sum', in the pinned program and in every row, IS THE sha256 OF THE DUMP (.gsa) THAT YtkkgcfllfhkoaaaProg.lean LOADS. Nothing in Lean hashes anything: it is a label: what it is worth is what the hold of that sum in a sandbox is worth. -/
noncomputable def Try.pinned : Pinned := { name := "ytkkgcfllfhkoaaa", sum := "b5b3da225d99d63d62b8709f1c3fd0004b6db654bfa0edf30fe248586a82da09", checked := Try.checked }
namespace Rows
def none {H : Type} : Left H := { results := [], args := [] }

/-- 'cretulalaw08.ClockDays': WHATEVER THE INPUT: true; the input reads as it did. -/
def clockDaysSpec : ChangeSpec := { name := "clockDays", fn := fun _ => fun
  | [d1, d2, d3] => { results := [.lit (.bool true)], args := [d1, d2, d3] }
  | _ => none }
def clockDaysRow : OpenClaim := { program := "ytkkgcfllfhkoaaa", sum := "b5b3da225d99d63d62b8709f1c3fd0004b6db654bfa0edf30fe248586a82da09", func := "cretula/cretulalaw08.ClockDays", spec := "clockDays", unfollowed := true, recurses := true, apart := false }
def ClockDaysSaid : Prop := clockDaysRow.holds Try.pinned (OpenSpec.ofChange clockDaysSpec)

/-- ITS FALSE NEIGHBOUR: 'it returns false'. Refute it at one input. -/
def clockDaysWrong : ChangeSpec := { name := "clockDays", fn := fun _ => fun
  | [d1, d2, d3] => { results := [.lit (.bool false)], args := [d1, d2, d3] }
  | _ => none }
def ClockDaysWrongFalsely : Prop := clockDaysRow.holds Try.pinned (OpenSpec.ofChange clockDaysWrong)

/-- 'cretulalaw08.ClockEncodes': WHATEVER THE INPUT: true; the input reads as it did. -/
def clockEncodesSpec : ChangeSpec := { name := "clockEncodes", fn := fun _ => fun
  | [d] => { results := [.lit (.bool true)], args := [d] }
  | _ => none }
def clockEncodesRow : OpenClaim := { program := "ytkkgcfllfhkoaaa", sum := "b5b3da225d99d63d62b8709f1c3fd0004b6db654bfa0edf30fe248586a82da09", func := "cretula/cretulalaw08.ClockEncodes", spec := "clockEncodes", unfollowed := true, recurses := true, apart := false }
def ClockEncodesSaid : Prop := clockEncodesRow.holds Try.pinned (OpenSpec.ofChange clockEncodesSpec)

/-- ITS FALSE NEIGHBOUR: 'it returns false'. Refute it at one input. -/
def clockEncodesWrong : ChangeSpec := { name := "clockEncodes", fn := fun _ => fun
  | [d] => { results := [.lit (.bool false)], args := [d] }
  | _ => none }
def ClockEncodesWrongFalsely : Prop := clockEncodesRow.holds Try.pinned (OpenSpec.ofChange clockEncodesWrong)

/-- 'cretulalaw08.ClockDecodes': WHATEVER THE INPUT: true; the input reads as it did. -/
def clockDecodesSpec : ChangeSpec := { name := "clockDecodes", fn := fun _ => fun
  | [d] => { results := [.lit (.bool true)], args := [d] }
  | _ => none }
def clockDecodesRow : OpenClaim := { program := "ytkkgcfllfhkoaaa", sum := "b5b3da225d99d63d62b8709f1c3fd0004b6db654bfa0edf30fe248586a82da09", func := "cretula/cretulalaw08.ClockDecodes", spec := "clockDecodes", unfollowed := true, recurses := true, apart := false }
def ClockDecodesSaid : Prop := clockDecodesRow.holds Try.pinned (OpenSpec.ofChange clockDecodesSpec)

/-- ITS FALSE NEIGHBOUR: 'it returns false'. Refute it at one input. -/
def clockDecodesWrong : ChangeSpec := { name := "clockDecodes", fn := fun _ => fun
  | [d] => { results := [.lit (.bool false)], args := [d] }
  | _ => none }
def ClockDecodesWrongFalsely : Prop := clockDecodesRow.holds Try.pinned (OpenSpec.ofChange clockDecodesWrong)

/-- 'cretulalaw01.CursorNumbers': WHATEVER THE INPUT: true; the input reads as it did. -/
def cursorNumbersSpec : ChangeSpec := { name := "cursorNumbers", fn := fun _ => fun
  | [d1, d2] => { results := [.lit (.bool true)], args := [d1, d2] }
  | _ => none }
def cursorNumbersRow : OpenClaim := { program := "ytkkgcfllfhkoaaa", sum := "b5b3da225d99d63d62b8709f1c3fd0004b6db654bfa0edf30fe248586a82da09", func := "cretula/cretulalaw01.CursorNumbers", spec := "cursorNumbers", unfollowed := true, recurses := true, apart := false }
def CursorNumbersSaid : Prop := cursorNumbersRow.holds Try.pinned (OpenSpec.ofChange cursorNumbersSpec)

/-- ITS FALSE NEIGHBOUR: 'it returns false'. Refute it at one input. -/
def cursorNumbersWrong : ChangeSpec := { name := "cursorNumbers", fn := fun _ => fun
  | [d1, d2] => { results := [.lit (.bool false)], args := [d1, d2] }
  | _ => none }
def CursorNumbersWrongFalsely : Prop := cursorNumbersRow.holds Try.pinned (OpenSpec.ofChange cursorNumbersWrong)

/-- 'cretulalaw01.CursorCompares': WHATEVER THE INPUT: true; the input reads as it did. -/
def cursorComparesSpec : ChangeSpec := { name := "cursorCompares", fn := fun _ => fun
  | [d1, d2, d3] => { results := [.lit (.bool true)], args := [d1, d2, d3] }
  | _ => none }
def cursorComparesRow : OpenClaim := { program := "ytkkgcfllfhkoaaa", sum := "b5b3da225d99d63d62b8709f1c3fd0004b6db654bfa0edf30fe248586a82da09", func := "cretula/cretulalaw01.CursorCompares", spec := "cursorCompares", unfollowed := true, recurses := true, apart := false }
def CursorComparesSaid : Prop := cursorComparesRow.holds Try.pinned (OpenSpec.ofChange cursorComparesSpec)

/-- ITS FALSE NEIGHBOUR: 'it returns false'. Refute it at one input. -/
def cursorComparesWrong : ChangeSpec := { name := "cursorCompares", fn := fun _ => fun
  | [d1, d2, d3] => { results := [.lit (.bool false)], args := [d1, d2, d3] }
  | _ => none }
def CursorComparesWrongFalsely : Prop := cursorComparesRow.holds Try.pinned (OpenSpec.ofChange cursorComparesWrong)

/-- 'cretulalaw01.CursorWhole': WHATEVER THE INPUT: true; the input reads as it did. -/
def cursorWholeSpec : ChangeSpec := { name := "cursorWhole", fn := fun _ => fun
  | [d1, d2] => { results := [.lit (.bool true)], args := [d1, d2] }
  | _ => none }
def cursorWholeRow : OpenClaim := { program := "ytkkgcfllfhkoaaa", sum := "b5b3da225d99d63d62b8709f1c3fd0004b6db654bfa0edf30fe248586a82da09", func := "cretula/cretulalaw01.CursorWhole", spec := "cursorWhole", unfollowed := true, recurses := true, apart := false }
def CursorWholeSaid : Prop := cursorWholeRow.holds Try.pinned (OpenSpec.ofChange cursorWholeSpec)

/-- ITS FALSE NEIGHBOUR: 'it returns false'. Refute it at one input. -/
def cursorWholeWrong : ChangeSpec := { name := "cursorWhole", fn := fun _ => fun
  | [d1, d2] => { results := [.lit (.bool false)], args := [d1, d2] }
  | _ => none }
def CursorWholeWrongFalsely : Prop := cursorWholeRow.holds Try.pinned (OpenSpec.ofChange cursorWholeWrong)

/-- 'cretulalaw01.CursorRuns': WHATEVER THE INPUT: true; the input reads as it did. -/
def cursorRunsSpec : ChangeSpec := { name := "cursorRuns", fn := fun _ => fun
  | [d1, d2] => { results := [.lit (.bool true)], args := [d1, d2] }
  | _ => none }
def cursorRunsRow : OpenClaim := { program := "ytkkgcfllfhkoaaa", sum := "b5b3da225d99d63d62b8709f1c3fd0004b6db654bfa0edf30fe248586a82da09", func := "cretula/cretulalaw01.CursorRuns", spec := "cursorRuns", unfollowed := true, recurses := true, apart := false }
def CursorRunsSaid : Prop := cursorRunsRow.holds Try.pinned (OpenSpec.ofChange cursorRunsSpec)

/-- ITS FALSE NEIGHBOUR: 'it returns false'. Refute it at one input. -/
def cursorRunsWrong : ChangeSpec := { name := "cursorRuns", fn := fun _ => fun
  | [d1, d2] => { results := [.lit (.bool false)], args := [d1, d2] }
  | _ => none }
def CursorRunsWrongFalsely : Prop := cursorRunsRow.holds Try.pinned (OpenSpec.ofChange cursorRunsWrong)

/-- 'cretulalaw01.CursorCopies': WHATEVER THE INPUT: true; the input reads as it did. -/
def cursorCopiesSpec : ChangeSpec := { name := "cursorCopies", fn := fun _ => fun
  | [d1, d2] => { results := [.lit (.bool true)], args := [d1, d2] }
  | _ => none }
def cursorCopiesRow : OpenClaim := { program := "ytkkgcfllfhkoaaa", sum := "b5b3da225d99d63d62b8709f1c3fd0004b6db654bfa0edf30fe248586a82da09", func := "cretula/cretulalaw01.CursorCopies", spec := "cursorCopies", unfollowed := true, recurses := true, apart := false }
def CursorCopiesSaid : Prop := cursorCopiesRow.holds Try.pinned (OpenSpec.ofChange cursorCopiesSpec)

/-- ITS FALSE NEIGHBOUR: 'it returns false'. Refute it at one input. -/
def cursorCopiesWrong : ChangeSpec := { name := "cursorCopies", fn := fun _ => fun
  | [d1, d2] => { results := [.lit (.bool false)], args := [d1, d2] }
  | _ => none }
def CursorCopiesWrongFalsely : Prop := cursorCopiesRow.holds Try.pinned (OpenSpec.ofChange cursorCopiesWrong)

/-- 'cretulalaw08.ClockSeconds': WHATEVER THE INPUT: true; the input reads as it did. -/
def clockSecondsSpec : ChangeSpec := { name := "clockSeconds", fn := fun _ => fun
  | [d1, d2] => { results := [.lit (.bool true)], args := [d1, d2] }
  | _ => none }
def clockSecondsRow : OpenClaim := { program := "ytkkgcfllfhkoaaa", sum := "b5b3da225d99d63d62b8709f1c3fd0004b6db654bfa0edf30fe248586a82da09", func := "cretula/cretulalaw08.ClockSeconds", spec := "clockSeconds", unfollowed := true, recurses := true, apart := false }
def ClockSecondsSaid : Prop := clockSecondsRow.holds Try.pinned (OpenSpec.ofChange clockSecondsSpec)

/-- ITS FALSE NEIGHBOUR: 'it returns false'. Refute it at one input. -/
def clockSecondsWrong : ChangeSpec := { name := "clockSeconds", fn := fun _ => fun
  | [d1, d2] => { results := [.lit (.bool false)], args := [d1, d2] }
  | _ => none }
def ClockSecondsWrongFalsely : Prop := clockSecondsRow.holds Try.pinned (OpenSpec.ofChange clockSecondsWrong)

/-- 'cretulalaw08.ClockCounts': WHATEVER THE INPUT: true; the input reads as it did. -/
def clockCountsSpec : ChangeSpec := { name := "clockCounts", fn := fun _ => fun
  | [d] => { results := [.lit (.bool true)], args := [d] }
  | _ => none }
def clockCountsRow : OpenClaim := { program := "ytkkgcfllfhkoaaa", sum := "b5b3da225d99d63d62b8709f1c3fd0004b6db654bfa0edf30fe248586a82da09", func := "cretula/cretulalaw08.ClockCounts", spec := "clockCounts", unfollowed := true, recurses := true, apart := false }
def ClockCountsSaid : Prop := clockCountsRow.holds Try.pinned (OpenSpec.ofChange clockCountsSpec)

/-- ITS FALSE NEIGHBOUR: 'it returns false'. Refute it at one input. -/
def clockCountsWrong : ChangeSpec := { name := "clockCounts", fn := fun _ => fun
  | [d] => { results := [.lit (.bool false)], args := [d] }
  | _ => none }
def ClockCountsWrongFalsely : Prop := clockCountsRow.holds Try.pinned (OpenSpec.ofChange clockCountsWrong)

/- THE SECOND FORM. 'bulk': how many values and letters a reading holds, each counted each time it is reached (what is shared counts as often as it is met; a slice's spare places count too). A statement '..UptoSaid' is the law's where the arguments, and the package variables that the reading takes, are together of bulk at most 1048576: NARROWER than '..Said'. Prove '..Said' where nothing that the law and all that it calls make is longer than what came in: it says more and counts as full. Else prove '..UptoSaid'. A law counts once. -/
mutual
def uptoBulk {H : Type} : DataW H → Nat
  | .lit (.string bytes) => bytes.length + 1
  | .lit _ => 1
  | .nil => 1
  | .ptr d => uptoBulk d + 1
  | .slice elems spare => uptoBulkAll elems + uptoBulkAll spare + 1
  | .agg parts => uptoBulkAll parts + 1
  | .iface _ d => uptoBulk d + 1
  | .map entries => uptoBulkEntries entries + 1
  | .held _ => 1
def uptoBulkAll {H : Type} : List (DataW H) → Nat
  | [] => 0
  | d :: r => uptoBulk d + uptoBulkAll r
def uptoBulkEntries {H : Type} : List (Lit × DataW H) → Nat
  | [] => 0
  | x :: r => uptoBulkEntry x + uptoBulkEntries r
def uptoBulkEntry {H : Type} : Lit × DataW H → Nat
  | (.string bytes, d) => bytes.length + uptoBulk d + 1
  | (_, d) => uptoBulk d + 1
 end
def uptoSmall : (H : Type) → List (DataW H) → Bool := fun _ ds => decide (uptoBulkAll ds ≤ 1048576)
def OpenSpec.upto (s : _root_.Go.ChangeSpec) : _root_.Go.OpenSpec := { _root_.Go.OpenSpec.ofChange s with cond := some uptoSmall }

/-- 'cretulalaw08.ClockDays', WHERE WHAT IT READS IS OF BULK AT MOST 1048576: true; the input reads as it did. -/
def clockDaysUptoRow : OpenClaim := { program := "ytkkgcfllfhkoaaa", sum := "b5b3da225d99d63d62b8709f1c3fd0004b6db654bfa0edf30fe248586a82da09", func := "cretula/cretulalaw08.ClockDays", spec := "clockDays", unfollowed := true, recurses := true, apart := false, narrowed := true }
def ClockDaysUptoSaid : Prop := clockDaysUptoRow.holds Try.pinned (OpenSpec.upto clockDaysSpec)

/-- 'cretulalaw08.ClockEncodes', WHERE WHAT IT READS IS OF BULK AT MOST 1048576: true; the input reads as it did. -/
def clockEncodesUptoRow : OpenClaim := { program := "ytkkgcfllfhkoaaa", sum := "b5b3da225d99d63d62b8709f1c3fd0004b6db654bfa0edf30fe248586a82da09", func := "cretula/cretulalaw08.ClockEncodes", spec := "clockEncodes", unfollowed := true, recurses := true, apart := false, narrowed := true }
def ClockEncodesUptoSaid : Prop := clockEncodesUptoRow.holds Try.pinned (OpenSpec.upto clockEncodesSpec)

/-- 'cretulalaw08.ClockDecodes', WHERE WHAT IT READS IS OF BULK AT MOST 1048576: true; the input reads as it did. -/
def clockDecodesUptoRow : OpenClaim := { program := "ytkkgcfllfhkoaaa", sum := "b5b3da225d99d63d62b8709f1c3fd0004b6db654bfa0edf30fe248586a82da09", func := "cretula/cretulalaw08.ClockDecodes", spec := "clockDecodes", unfollowed := true, recurses := true, apart := false, narrowed := true }
def ClockDecodesUptoSaid : Prop := clockDecodesUptoRow.holds Try.pinned (OpenSpec.upto clockDecodesSpec)

/-- 'cretulalaw01.CursorNumbers', WHERE WHAT IT READS IS OF BULK AT MOST 1048576: true; the input reads as it did. -/
def cursorNumbersUptoRow : OpenClaim := { program := "ytkkgcfllfhkoaaa", sum := "b5b3da225d99d63d62b8709f1c3fd0004b6db654bfa0edf30fe248586a82da09", func := "cretula/cretulalaw01.CursorNumbers", spec := "cursorNumbers", unfollowed := true, recurses := true, apart := false, narrowed := true }
def CursorNumbersUptoSaid : Prop := cursorNumbersUptoRow.holds Try.pinned (OpenSpec.upto cursorNumbersSpec)

/-- 'cretulalaw01.CursorCompares', WHERE WHAT IT READS IS OF BULK AT MOST 1048576: true; the input reads as it did. -/
def cursorComparesUptoRow : OpenClaim := { program := "ytkkgcfllfhkoaaa", sum := "b5b3da225d99d63d62b8709f1c3fd0004b6db654bfa0edf30fe248586a82da09", func := "cretula/cretulalaw01.CursorCompares", spec := "cursorCompares", unfollowed := true, recurses := true, apart := false, narrowed := true }
def CursorComparesUptoSaid : Prop := cursorComparesUptoRow.holds Try.pinned (OpenSpec.upto cursorComparesSpec)

/-- 'cretulalaw01.CursorWhole', WHERE WHAT IT READS IS OF BULK AT MOST 1048576: true; the input reads as it did. -/
def cursorWholeUptoRow : OpenClaim := { program := "ytkkgcfllfhkoaaa", sum := "b5b3da225d99d63d62b8709f1c3fd0004b6db654bfa0edf30fe248586a82da09", func := "cretula/cretulalaw01.CursorWhole", spec := "cursorWhole", unfollowed := true, recurses := true, apart := false, narrowed := true }
def CursorWholeUptoSaid : Prop := cursorWholeUptoRow.holds Try.pinned (OpenSpec.upto cursorWholeSpec)

/-- 'cretulalaw01.CursorRuns', WHERE WHAT IT READS IS OF BULK AT MOST 1048576: true; the input reads as it did. -/
def cursorRunsUptoRow : OpenClaim := { program := "ytkkgcfllfhkoaaa", sum := "b5b3da225d99d63d62b8709f1c3fd0004b6db654bfa0edf30fe248586a82da09", func := "cretula/cretulalaw01.CursorRuns", spec := "cursorRuns", unfollowed := true, recurses := true, apart := false, narrowed := true }
def CursorRunsUptoSaid : Prop := cursorRunsUptoRow.holds Try.pinned (OpenSpec.upto cursorRunsSpec)

/-- 'cretulalaw01.CursorCopies', WHERE WHAT IT READS IS OF BULK AT MOST 1048576: true; the input reads as it did. -/
def cursorCopiesUptoRow : OpenClaim := { program := "ytkkgcfllfhkoaaa", sum := "b5b3da225d99d63d62b8709f1c3fd0004b6db654bfa0edf30fe248586a82da09", func := "cretula/cretulalaw01.CursorCopies", spec := "cursorCopies", unfollowed := true, recurses := true, apart := false, narrowed := true }
def CursorCopiesUptoSaid : Prop := cursorCopiesUptoRow.holds Try.pinned (OpenSpec.upto cursorCopiesSpec)

/-- 'cretulalaw08.ClockSeconds', WHERE WHAT IT READS IS OF BULK AT MOST 1048576: true; the input reads as it did. -/
def clockSecondsUptoRow : OpenClaim := { program := "ytkkgcfllfhkoaaa", sum := "b5b3da225d99d63d62b8709f1c3fd0004b6db654bfa0edf30fe248586a82da09", func := "cretula/cretulalaw08.ClockSeconds", spec := "clockSeconds", unfollowed := true, recurses := true, apart := false, narrowed := true }
def ClockSecondsUptoSaid : Prop := clockSecondsUptoRow.holds Try.pinned (OpenSpec.upto clockSecondsSpec)

/-- 'cretulalaw08.ClockCounts', WHERE WHAT IT READS IS OF BULK AT MOST 1048576: true; the input reads as it did. -/
def clockCountsUptoRow : OpenClaim := { program := "ytkkgcfllfhkoaaa", sum := "b5b3da225d99d63d62b8709f1c3fd0004b6db654bfa0edf30fe248586a82da09", func := "cretula/cretulalaw08.ClockCounts", spec := "clockCounts", unfollowed := true, recurses := true, apart := false, narrowed := true }
def ClockCountsUptoSaid : Prop := clockCountsUptoRow.holds Try.pinned (OpenSpec.upto clockCountsSpec)

end Rows
end Go.Proofs.Ytkkgcfllfhkoaaa
