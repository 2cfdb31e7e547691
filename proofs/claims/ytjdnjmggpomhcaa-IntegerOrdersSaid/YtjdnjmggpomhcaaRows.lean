/-
  No cell of these rows narrows 'for every input' (looked for: loops, veiled, ifaces, maps, wideKeys, modest, calm, conditions, laid).
  DERIVED. THE GIVEN ROWS OF THIS SEAT. 13 by the template 'for every input the law returns true; each argument reads behind the call as it read before'; 0 by the template 'total and deterministic' (their statements: YtjdnjmggpomhcaaTotals.lean).
  GIVEN WITH THE SEED: the statements are not yours to turn. If you find one false, say at which input.
  Laid BY PROGRAM, IN A SANDBOX (cutbox-rows.mjs): the forced cells as the released guide's own fill.sh prints them over the translation 701195a8c9d37390… (all of the seat's roots in one cut). By AI agents, Wed Nov 11 2026. No macro, syntax, notation, axiom, sorry.
-/
import Derived.Test.YtjdnjmggpomhcaaChecked
import GoSem.Claim
import GoSem.ClaimJoined
import GoSem.ClaimMapViews
import Derived.JoinedTies
import Derived.KernelRfl
namespace Go.Proofs.Ytjdnjmggpomhcaa
/- THE CELL 'sum', in the pinned program and in every row, IS THE sha256 OF THE DUMP (.gsa) THAT YtjdnjmggpomhcaaProg.lean LOADS. Nothing in Lean hashes anything: it is a label: what it is worth is what the hold of that sum in a sandbox is worth. -/
noncomputable def Try.pinned : Pinned := { name := "ytjdnjmggpomhcaa", sum := "701195a8c9d373904fb5afa653e9ebff71bc605c3bda8730121dd7599ac88e16", checked := Try.checked }
namespace Rows
def none {H : Type} : Left H := { results := [], args := [] }

/-- 'cretulalaw04.IntegerInverse': WHATEVER THE INPUT: true; the input reads as it did. -/
def integerInverseSpec : ChangeSpec := { name := "integerInverse", fn := fun _ => fun
  | [d1, d2] => { results := [.lit (.bool true)], args := [d1, d2] }
  | _ => none }
def integerInverseRow : OpenClaim := { program := "ytjdnjmggpomhcaa", sum := "701195a8c9d373904fb5afa653e9ebff71bc605c3bda8730121dd7599ac88e16", func := "cretula/cretulalaw04.IntegerInverse", spec := "integerInverse", recurses := true, apart := false }
def IntegerInverseSaid : Prop := integerInverseRow.holds Try.pinned (OpenSpec.ofChange integerInverseSpec)

/-- ITS FALSE NEIGHBOUR: 'it returns false'. Refute it at one input. -/
def integerInverseWrong : ChangeSpec := { name := "integerInverse", fn := fun _ => fun
  | [d1, d2] => { results := [.lit (.bool false)], args := [d1, d2] }
  | _ => none }
def IntegerInverseWrongFalsely : Prop := integerInverseRow.holds Try.pinned (OpenSpec.ofChange integerInverseWrong)

/-- 'cretulalaw04.IntegerKeeps': WHATEVER THE INPUT: true; the input reads as it did. -/
def integerKeepsSpec : ChangeSpec := { name := "integerKeeps", fn := fun _ => fun
  | [d] => { results := [.lit (.bool true)], args := [d] }
  | _ => none }
def integerKeepsRow : OpenClaim := { program := "ytjdnjmggpomhcaa", sum := "701195a8c9d373904fb5afa653e9ebff71bc605c3bda8730121dd7599ac88e16", func := "cretula/cretulalaw04.IntegerKeeps", spec := "integerKeeps", apart := false }
def IntegerKeepsSaid : Prop := integerKeepsRow.holds Try.pinned (OpenSpec.ofChange integerKeepsSpec)

/-- ITS FALSE NEIGHBOUR: 'it returns false'. Refute it at one input. -/
def integerKeepsWrong : ChangeSpec := { name := "integerKeeps", fn := fun _ => fun
  | [d] => { results := [.lit (.bool false)], args := [d] }
  | _ => none }
def IntegerKeepsWrongFalsely : Prop := integerKeepsRow.holds Try.pinned (OpenSpec.ofChange integerKeepsWrong)

/-- 'cretulalaw04.IntegerSimple': WHATEVER THE INPUT: true; the input reads as it did. -/
def integerSimpleSpec : ChangeSpec := { name := "integerSimple", fn := fun _ => fun
  | [d1, d2] => { results := [.lit (.bool true)], args := [d1, d2] }
  | _ => none }
def integerSimpleRow : OpenClaim := { program := "ytjdnjmggpomhcaa", sum := "701195a8c9d373904fb5afa653e9ebff71bc605c3bda8730121dd7599ac88e16", func := "cretula/cretulalaw04.IntegerSimple", spec := "integerSimple", apart := false }
def IntegerSimpleSaid : Prop := integerSimpleRow.holds Try.pinned (OpenSpec.ofChange integerSimpleSpec)

/-- ITS FALSE NEIGHBOUR: 'it returns false'. Refute it at one input. -/
def integerSimpleWrong : ChangeSpec := { name := "integerSimple", fn := fun _ => fun
  | [d1, d2] => { results := [.lit (.bool false)], args := [d1, d2] }
  | _ => none }
def IntegerSimpleWrongFalsely : Prop := integerSimpleRow.holds Try.pinned (OpenSpec.ofChange integerSimpleWrong)

/-- 'cretulalaw04.IntegerReads': WHATEVER THE INPUT: true; the input reads as it did. -/
def integerReadsSpec : ChangeSpec := { name := "integerReads", fn := fun _ => fun
  | [d] => { results := [.lit (.bool true)], args := [d] }
  | _ => none }
def integerReadsRow : OpenClaim := { program := "ytjdnjmggpomhcaa", sum := "701195a8c9d373904fb5afa653e9ebff71bc605c3bda8730121dd7599ac88e16", func := "cretula/cretulalaw04.IntegerReads", spec := "integerReads", apart := false }
def IntegerReadsSaid : Prop := integerReadsRow.holds Try.pinned (OpenSpec.ofChange integerReadsSpec)

/-- ITS FALSE NEIGHBOUR: 'it returns false'. Refute it at one input. -/
def integerReadsWrong : ChangeSpec := { name := "integerReads", fn := fun _ => fun
  | [d] => { results := [.lit (.bool false)], args := [d] }
  | _ => none }
def IntegerReadsWrongFalsely : Prop := integerReadsRow.holds Try.pinned (OpenSpec.ofChange integerReadsWrong)

/-- 'cretulalaw02.TlvIdentifiers': WHATEVER THE INPUT: true; the input reads as it did. -/
def tlvIdentifiersSpec : ChangeSpec := { name := "tlvIdentifiers", fn := fun _ => fun
  | [d1, d2, d3] => { results := [.lit (.bool true)], args := [d1, d2, d3] }
  | _ => none }
def tlvIdentifiersRow : OpenClaim := { program := "ytjdnjmggpomhcaa", sum := "701195a8c9d373904fb5afa653e9ebff71bc605c3bda8730121dd7599ac88e16", func := "cretula/cretulalaw02.TlvIdentifiers", spec := "tlvIdentifiers", unfollowed := true, recurses := true, apart := false }
def TlvIdentifiersSaid : Prop := tlvIdentifiersRow.holds Try.pinned (OpenSpec.ofChange tlvIdentifiersSpec)

/-- ITS FALSE NEIGHBOUR: 'it returns false'. Refute it at one input. -/
def tlvIdentifiersWrong : ChangeSpec := { name := "tlvIdentifiers", fn := fun _ => fun
  | [d1, d2, d3] => { results := [.lit (.bool false)], args := [d1, d2, d3] }
  | _ => none }
def TlvIdentifiersWrongFalsely : Prop := tlvIdentifiersRow.holds Try.pinned (OpenSpec.ofChange tlvIdentifiersWrong)

/-- 'cretulalaw02.TlvLengths': WHATEVER THE INPUT: true; the input reads as it did. -/
def tlvLengthsSpec : ChangeSpec := { name := "tlvLengths", fn := fun _ => fun
  | [d1, d2] => { results := [.lit (.bool true)], args := [d1, d2] }
  | _ => none }
def tlvLengthsRow : OpenClaim := { program := "ytjdnjmggpomhcaa", sum := "701195a8c9d373904fb5afa653e9ebff71bc605c3bda8730121dd7599ac88e16", func := "cretula/cretulalaw02.TlvLengths", spec := "tlvLengths", unfollowed := true, recurses := true, apart := false }
def TlvLengthsSaid : Prop := tlvLengthsRow.holds Try.pinned (OpenSpec.ofChange tlvLengthsSpec)

/-- ITS FALSE NEIGHBOUR: 'it returns false'. Refute it at one input. -/
def tlvLengthsWrong : ChangeSpec := { name := "tlvLengths", fn := fun _ => fun
  | [d1, d2] => { results := [.lit (.bool false)], args := [d1, d2] }
  | _ => none }
def TlvLengthsWrongFalsely : Prop := tlvLengthsRow.holds Try.pinned (OpenSpec.ofChange tlvLengthsWrong)

/-- 'cretulalaw02.TlvReads': WHATEVER THE INPUT: true; the input reads as it did. -/
def tlvReadsSpec : ChangeSpec := { name := "tlvReads", fn := fun _ => fun
  | [d] => { results := [.lit (.bool true)], args := [d] }
  | _ => none }
def tlvReadsRow : OpenClaim := { program := "ytjdnjmggpomhcaa", sum := "701195a8c9d373904fb5afa653e9ebff71bc605c3bda8730121dd7599ac88e16", func := "cretula/cretulalaw02.TlvReads", spec := "tlvReads", unfollowed := true, recurses := true, apart := false }
def TlvReadsSaid : Prop := tlvReadsRow.holds Try.pinned (OpenSpec.ofChange tlvReadsSpec)

/-- ITS FALSE NEIGHBOUR: 'it returns false'. Refute it at one input. -/
def tlvReadsWrong : ChangeSpec := { name := "tlvReads", fn := fun _ => fun
  | [d] => { results := [.lit (.bool false)], args := [d] }
  | _ => none }
def TlvReadsWrongFalsely : Prop := tlvReadsRow.holds Try.pinned (OpenSpec.ofChange tlvReadsWrong)

/-- 'cretulalaw02.TlvEncodes': WHATEVER THE INPUT: true; the input reads as it did. -/
def tlvEncodesSpec : ChangeSpec := { name := "tlvEncodes", fn := fun _ => fun
  | [d1, d2, d3] => { results := [.lit (.bool true)], args := [d1, d2, d3] }
  | _ => none }
def tlvEncodesRow : OpenClaim := { program := "ytjdnjmggpomhcaa", sum := "701195a8c9d373904fb5afa653e9ebff71bc605c3bda8730121dd7599ac88e16", func := "cretula/cretulalaw02.TlvEncodes", spec := "tlvEncodes", unfollowed := true, recurses := true, apart := false }
def TlvEncodesSaid : Prop := tlvEncodesRow.holds Try.pinned (OpenSpec.ofChange tlvEncodesSpec)

/-- ITS FALSE NEIGHBOUR: 'it returns false'. Refute it at one input. -/
def tlvEncodesWrong : ChangeSpec := { name := "tlvEncodes", fn := fun _ => fun
  | [d1, d2, d3] => { results := [.lit (.bool false)], args := [d1, d2, d3] }
  | _ => none }
def TlvEncodesWrongFalsely : Prop := tlvEncodesRow.holds Try.pinned (OpenSpec.ofChange tlvEncodesWrong)

/-- 'cretulalaw02.TlvNext': WHATEVER THE INPUT: true; the input reads as it did. -/
def tlvNextSpec : ChangeSpec := { name := "tlvNext", fn := fun _ => fun
  | [d] => { results := [.lit (.bool true)], args := [d] }
  | _ => none }
def tlvNextRow : OpenClaim := { program := "ytjdnjmggpomhcaa", sum := "701195a8c9d373904fb5afa653e9ebff71bc605c3bda8730121dd7599ac88e16", func := "cretula/cretulalaw02.TlvNext", spec := "tlvNext", unfollowed := true, recurses := true, apart := false }
def TlvNextSaid : Prop := tlvNextRow.holds Try.pinned (OpenSpec.ofChange tlvNextSpec)

/-- ITS FALSE NEIGHBOUR: 'it returns false'. Refute it at one input. -/
def tlvNextWrong : ChangeSpec := { name := "tlvNext", fn := fun _ => fun
  | [d] => { results := [.lit (.bool false)], args := [d] }
  | _ => none }
def TlvNextWrongFalsely : Prop := tlvNextRow.holds Try.pinned (OpenSpec.ofChange tlvNextWrong)

/-- 'cretulalaw02.TlvPrefix': WHATEVER THE INPUT: true; the input reads as it did. -/
def tlvPrefixSpec : ChangeSpec := { name := "tlvPrefix", fn := fun _ => fun
  | [d1, d2, d3] => { results := [.lit (.bool true)], args := [d1, d2, d3] }
  | _ => none }
def tlvPrefixRow : OpenClaim := { program := "ytjdnjmggpomhcaa", sum := "701195a8c9d373904fb5afa653e9ebff71bc605c3bda8730121dd7599ac88e16", func := "cretula/cretulalaw02.TlvPrefix", spec := "tlvPrefix", unfollowed := true, recurses := true, apart := false }
def TlvPrefixSaid : Prop := tlvPrefixRow.holds Try.pinned (OpenSpec.ofChange tlvPrefixSpec)

/-- ITS FALSE NEIGHBOUR: 'it returns false'. Refute it at one input. -/
def tlvPrefixWrong : ChangeSpec := { name := "tlvPrefix", fn := fun _ => fun
  | [d1, d2, d3] => { results := [.lit (.bool false)], args := [d1, d2, d3] }
  | _ => none }
def TlvPrefixWrongFalsely : Prop := tlvPrefixRow.holds Try.pinned (OpenSpec.ofChange tlvPrefixWrong)

/-- 'cretulalaw02.TlvCopies': WHATEVER THE INPUT: true; the input reads as it did. -/
def tlvCopiesSpec : ChangeSpec := { name := "tlvCopies", fn := fun _ => fun
  | [d] => { results := [.lit (.bool true)], args := [d] }
  | _ => none }
def tlvCopiesRow : OpenClaim := { program := "ytjdnjmggpomhcaa", sum := "701195a8c9d373904fb5afa653e9ebff71bc605c3bda8730121dd7599ac88e16", func := "cretula/cretulalaw02.TlvCopies", spec := "tlvCopies", unfollowed := true, recurses := true, apart := false }
def TlvCopiesSaid : Prop := tlvCopiesRow.holds Try.pinned (OpenSpec.ofChange tlvCopiesSpec)

/-- ITS FALSE NEIGHBOUR: 'it returns false'. Refute it at one input. -/
def tlvCopiesWrong : ChangeSpec := { name := "tlvCopies", fn := fun _ => fun
  | [d] => { results := [.lit (.bool false)], args := [d] }
  | _ => none }
def TlvCopiesWrongFalsely : Prop := tlvCopiesRow.holds Try.pinned (OpenSpec.ofChange tlvCopiesWrong)

/-- 'cretulalaw04.IntegerOrders': WHATEVER THE INPUT: true; the input reads as it did. -/
def integerOrdersSpec : ChangeSpec := { name := "integerOrders", fn := fun _ => fun
  | [d1, d2, d3] => { results := [.lit (.bool true)], args := [d1, d2, d3] }
  | _ => none }
def integerOrdersRow : OpenClaim := { program := "ytjdnjmggpomhcaa", sum := "701195a8c9d373904fb5afa653e9ebff71bc605c3bda8730121dd7599ac88e16", func := "cretula/cretulalaw04.IntegerOrders", spec := "integerOrders", unfollowed := true, recurses := true, apart := false }
def IntegerOrdersSaid : Prop := integerOrdersRow.holds Try.pinned (OpenSpec.ofChange integerOrdersSpec)

/-- ITS FALSE NEIGHBOUR: 'it returns false'. Refute it at one input. -/
def integerOrdersWrong : ChangeSpec := { name := "integerOrders", fn := fun _ => fun
  | [d1, d2, d3] => { results := [.lit (.bool false)], args := [d1, d2, d3] }
  | _ => none }
def IntegerOrdersWrongFalsely : Prop := integerOrdersRow.holds Try.pinned (OpenSpec.ofChange integerOrdersWrong)

/-- 'cretulalaw04.IntegerDecimals': WHATEVER THE INPUT: true; the input reads as it did. -/
def integerDecimalsSpec : ChangeSpec := { name := "integerDecimals", fn := fun _ => fun
  | [d1, d2] => { results := [.lit (.bool true)], args := [d1, d2] }
  | _ => none }
def integerDecimalsRow : OpenClaim := { program := "ytjdnjmggpomhcaa", sum := "701195a8c9d373904fb5afa653e9ebff71bc605c3bda8730121dd7599ac88e16", func := "cretula/cretulalaw04.IntegerDecimals", spec := "integerDecimals", inPlace := ["slices.overlaps[byte]"], apart := false }
def IntegerDecimalsSaid : Prop := integerDecimalsRow.holds Try.pinned (OpenSpec.ofChange integerDecimalsSpec)

/-- ITS FALSE NEIGHBOUR: 'it returns false'. Refute it at one input. -/
def integerDecimalsWrong : ChangeSpec := { name := "integerDecimals", fn := fun _ => fun
  | [d1, d2] => { results := [.lit (.bool false)], args := [d1, d2] }
  | _ => none }
def IntegerDecimalsWrongFalsely : Prop := integerDecimalsRow.holds Try.pinned (OpenSpec.ofChange integerDecimalsWrong)

/- THE SECOND FORM. 'bulk': how many values and letters a reading holds, each counted each time it is reached (what is shared counts as often as it is met; a slice's spare places count too). A statement '..UptoSaid' is the law's where the arguments, and the package variables that the reading takes, are together of bulk at most 1048576: NARROWER than '..Said'. Prove '..Said' where nothing that the law and all that it calls make is longer than what came in: it says more and counts as full. Else prove '..UptoSaid'. A law counts once. -/
mutual
def uptoBulk {H : Type} : DataW H → Nat
  | .lit (.string bytes) => bytes.length + 1
  | .lit _ => 1
  | .nil => 1
  | .ptr d => uptoBulk d + 1
  | .slice elems spare => uptoBulkAll elems + uptoBulkAll spare + 1
  | .agg parts => uptoBulkAll parts + 1
  | .iface _ d => uptoBulk d + 1
  | .map entries => uptoBulkEntries entries + 1
  | .held _ => 1
def uptoBulkAll {H : Type} : List (DataW H) → Nat
  | [] => 0
  | d :: r => uptoBulk d + uptoBulkAll r
def uptoBulkEntries {H : Type} : List (Lit × DataW H) → Nat
  | [] => 0
  | x :: r => uptoBulkEntry x + uptoBulkEntries r
def uptoBulkEntry {H : Type} : Lit × DataW H → Nat
  | (.string bytes, d) => bytes.length + uptoBulk d + 1
  | (_, d) => uptoBulk d + 1
 end
def uptoSmall : (H : Type) → List (DataW H) → Bool := fun _ ds => decide (uptoBulkAll ds ≤ 1048576)
def OpenSpec.upto (s : _root_.Go.ChangeSpec) : _root_.Go.OpenSpec := { _root_.Go.OpenSpec.ofChange s with cond := some uptoSmall }

/-- 'cretulalaw04.IntegerInverse', WHERE WHAT IT READS IS OF BULK AT MOST 1048576: true; the input reads as it did. -/
def integerInverseUptoRow : OpenClaim := { program := "ytjdnjmggpomhcaa", sum := "701195a8c9d373904fb5afa653e9ebff71bc605c3bda8730121dd7599ac88e16", func := "cretula/cretulalaw04.IntegerInverse", spec := "integerInverse", recurses := true, apart := false, narrowed := true }
def IntegerInverseUptoSaid : Prop := integerInverseUptoRow.holds Try.pinned (OpenSpec.upto integerInverseSpec)

/-- 'cretulalaw04.IntegerKeeps', WHERE WHAT IT READS IS OF BULK AT MOST 1048576: true; the input reads as it did. -/
def integerKeepsUptoRow : OpenClaim := { program := "ytjdnjmggpomhcaa", sum := "701195a8c9d373904fb5afa653e9ebff71bc605c3bda8730121dd7599ac88e16", func := "cretula/cretulalaw04.IntegerKeeps", spec := "integerKeeps", apart := false, narrowed := true }
def IntegerKeepsUptoSaid : Prop := integerKeepsUptoRow.holds Try.pinned (OpenSpec.upto integerKeepsSpec)

/-- 'cretulalaw04.IntegerSimple', WHERE WHAT IT READS IS OF BULK AT MOST 1048576: true; the input reads as it did. -/
def integerSimpleUptoRow : OpenClaim := { program := "ytjdnjmggpomhcaa", sum := "701195a8c9d373904fb5afa653e9ebff71bc605c3bda8730121dd7599ac88e16", func := "cretula/cretulalaw04.IntegerSimple", spec := "integerSimple", apart := false, narrowed := true }
def IntegerSimpleUptoSaid : Prop := integerSimpleUptoRow.holds Try.pinned (OpenSpec.upto integerSimpleSpec)

/-- 'cretulalaw04.IntegerReads', WHERE WHAT IT READS IS OF BULK AT MOST 1048576: true; the input reads as it did. -/
def integerReadsUptoRow : OpenClaim := { program := "ytjdnjmggpomhcaa", sum := "701195a8c9d373904fb5afa653e9ebff71bc605c3bda8730121dd7599ac88e16", func := "cretula/cretulalaw04.IntegerReads", spec := "integerReads", apart := false, narrowed := true }
def IntegerReadsUptoSaid : Prop := integerReadsUptoRow.holds Try.pinned (OpenSpec.upto integerReadsSpec)

/-- 'cretulalaw02.TlvIdentifiers', WHERE WHAT IT READS IS OF BULK AT MOST 1048576: true; the input reads as it did. -/
def tlvIdentifiersUptoRow : OpenClaim := { program := "ytjdnjmggpomhcaa", sum := "701195a8c9d373904fb5afa653e9ebff71bc605c3bda8730121dd7599ac88e16", func := "cretula/cretulalaw02.TlvIdentifiers", spec := "tlvIdentifiers", unfollowed := true, recurses := true, apart := false, narrowed := true }
def TlvIdentifiersUptoSaid : Prop := tlvIdentifiersUptoRow.holds Try.pinned (OpenSpec.upto tlvIdentifiersSpec)

/-- 'cretulalaw02.TlvLengths', WHERE WHAT IT READS IS OF BULK AT MOST 1048576: true; the input reads as it did. -/
def tlvLengthsUptoRow : OpenClaim := { program := "ytjdnjmggpomhcaa", sum := "701195a8c9d373904fb5afa653e9ebff71bc605c3bda8730121dd7599ac88e16", func := "cretula/cretulalaw02.TlvLengths", spec := "tlvLengths", unfollowed := true, recurses := true, apart := false, narrowed := true }
def TlvLengthsUptoSaid : Prop := tlvLengthsUptoRow.holds Try.pinned (OpenSpec.upto tlvLengthsSpec)

/-- 'cretulalaw02.TlvReads', WHERE WHAT IT READS IS OF BULK AT MOST 1048576: true; the input reads as it did. -/
def tlvReadsUptoRow : OpenClaim := { program := "ytjdnjmggpomhcaa", sum := "701195a8c9d373904fb5afa653e9ebff71bc605c3bda8730121dd7599ac88e16", func := "cretula/cretulalaw02.TlvReads", spec := "tlvReads", unfollowed := true, recurses := true, apart := false, narrowed := true }
def TlvReadsUptoSaid : Prop := tlvReadsUptoRow.holds Try.pinned (OpenSpec.upto tlvReadsSpec)

/-- 'cretulalaw02.TlvEncodes', WHERE WHAT IT READS IS OF BULK AT MOST 1048576: true; the input reads as it did. -/
def tlvEncodesUptoRow : OpenClaim := { program := "ytjdnjmggpomhcaa", sum := "701195a8c9d373904fb5afa653e9ebff71bc605c3bda8730121dd7599ac88e16", func := "cretula/cretulalaw02.TlvEncodes", spec := "tlvEncodes", unfollowed := true, recurses := true, apart := false, narrowed := true }
def TlvEncodesUptoSaid : Prop := tlvEncodesUptoRow.holds Try.pinned (OpenSpec.upto tlvEncodesSpec)

/-- 'cretulalaw02.TlvNext', WHERE WHAT IT READS IS OF BULK AT MOST 1048576: true; the input reads as it did. -/
def tlvNextUptoRow : OpenClaim := { program := "ytjdnjmggpomhcaa", sum := "701195a8c9d373904fb5afa653e9ebff71bc605c3bda8730121dd7599ac88e16", func := "cretula/cretulalaw02.TlvNext", spec := "tlvNext", unfollowed := true, recurses := true, apart := false, narrowed := true }
def TlvNextUptoSaid : Prop := tlvNextUptoRow.holds Try.pinned (OpenSpec.upto tlvNextSpec)

/-- 'cretulalaw02.TlvPrefix', WHERE WHAT IT READS IS OF BULK AT MOST 1048576: true; the input reads as it did. -/
def tlvPrefixUptoRow : OpenClaim := { program := "ytjdnjmggpomhcaa", sum := "701195a8c9d373904fb5afa653e9ebff71bc605c3bda8730121dd7599ac88e16", func := "cretula/cretulalaw02.TlvPrefix", spec := "tlvPrefix", unfollowed := true, recurses := true, apart := false, narrowed := true }
def TlvPrefixUptoSaid : Prop := tlvPrefixUptoRow.holds Try.pinned (OpenSpec.upto tlvPrefixSpec)

/-- 'cretulalaw02.TlvCopies', WHERE WHAT IT READS IS OF BULK AT MOST 1048576: true; the input reads as it did. -/
def tlvCopiesUptoRow : OpenClaim := { program := "ytjdnjmggpomhcaa", sum := "701195a8c9d373904fb5afa653e9ebff71bc605c3bda8730121dd7599ac88e16", func := "cretula/cretulalaw02.TlvCopies", spec := "tlvCopies", unfollowed := true, recurses := true, apart := false, narrowed := true }
def TlvCopiesUptoSaid : Prop := tlvCopiesUptoRow.holds Try.pinned (OpenSpec.upto tlvCopiesSpec)

/-- 'cretulalaw04.IntegerOrders', WHERE WHAT IT READS IS OF BULK AT MOST 1048576: true; the input reads as it did. -/
def integerOrdersUptoRow : OpenClaim := { program := "ytjdnjmggpomhcaa", sum := "701195a8c9d373904fb5afa653e9ebff71bc605c3bda8730121dd7599ac88e16", func := "cretula/cretulalaw04.IntegerOrders", spec := "integerOrders", unfollowed := true, recurses := true, apart := false, narrowed := true }
def IntegerOrdersUptoSaid : Prop := integerOrdersUptoRow.holds Try.pinned (OpenSpec.upto integerOrdersSpec)

/-- 'cretulalaw04.IntegerDecimals', WHERE WHAT IT READS IS OF BULK AT MOST 1048576: true; the input reads as it did. -/
def integerDecimalsUptoRow : OpenClaim := { program := "ytjdnjmggpomhcaa", sum := "701195a8c9d373904fb5afa653e9ebff71bc605c3bda8730121dd7599ac88e16", func := "cretula/cretulalaw04.IntegerDecimals", spec := "integerDecimals", inPlace := ["slices.overlaps[byte]"], apart := false, narrowed := true }
def IntegerDecimalsUptoSaid : Prop := integerDecimalsUptoRow.holds Try.pinned (OpenSpec.upto integerDecimalsSpec)

end Rows
end Go.Proofs.Ytjdnjmggpomhcaa
