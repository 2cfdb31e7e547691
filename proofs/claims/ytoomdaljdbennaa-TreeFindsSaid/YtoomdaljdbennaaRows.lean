/-
  NARROWER THAN 'FOR EVERY INPUT', by the rows' own cells (each row's printed sentence says how): TreeEncodes: loops · TreePrefix: loops.
  DERIVED. THE GIVEN ROWS OF THIS SEAT. 7 by the template 'for every input the law returns true; each argument reads behind the call as it read before'; 0 by the template 'total and deterministic' (their statements: YtoomdaljdbennaaTotals.lean).
  GIVEN WITH THE SEED: the statements are not yours to turn. If you find one false, say at which input.
  Laid BY PROGRAM, IN A SANDBOX (cutbox-rows.mjs): the forced cells as the released guide's own fill.sh prints them over the translation 0da8095646d87b8c… (all of the seat's roots in one cut). By AI agents, Wed Nov 11 2026. No macro, syntax, notation, axiom, sorry.
-/
import Derived.Test.YtoomdaljdbennaaChecked
import GoSem.Claim
import GoSem.ClaimJoined
import GoSem.ClaimMapViews
import Derived.JoinedTies
import Derived.KernelRfl
namespace Go.Proofs.Ytoomdaljdbennaa
/- THE CELL 'sum', in the pinned program and in every row, IS THE sha256 OF THE DUMP (.gsa) THAT YtoomdaljdbennaaProg.lean LOADS. Nothing in Lean hashes anything: it is a label: what it is worth is what the hold of that sum in a sandbox is worth. -/
noncomputable def Try.pinned : Pinned := { name := "ytoomdaljdbennaa", sum := "0da8095646d87b8c972ce8be91e617fd1ced0a4f09c888a7e2633f1ea3475b30", checked := Try.checked }
namespace Rows
def none {H : Type} : Left H := { results := [], args := [] }

/-- 'cretulalaw03.TreeParses': WHATEVER THE INPUT: true; the input reads as it did. -/
def treeParsesSpec : ChangeSpec := { name := "treeParses", fn := fun _ => fun
  | [d] => { results := [.lit (.bool true)], args := [d] }
  | _ => none }
def treeParsesRow : OpenClaim := { program := "ytoomdaljdbennaa", sum := "0da8095646d87b8c972ce8be91e617fd1ced0a4f09c888a7e2633f1ea3475b30", func := "cretula/cretulalaw03.TreeParses", spec := "treeParses", unfollowed := true, recurses := true, apart := false }
def TreeParsesSaid : Prop := treeParsesRow.holds Try.pinned (OpenSpec.ofChange treeParsesSpec)

/-- ITS FALSE NEIGHBOUR: 'it returns false'. Refute it at one input. -/
def treeParsesWrong : ChangeSpec := { name := "treeParses", fn := fun _ => fun
  | [d] => { results := [.lit (.bool false)], args := [d] }
  | _ => none }
def TreeParsesWrongFalsely : Prop := treeParsesRow.holds Try.pinned (OpenSpec.ofChange treeParsesWrong)

/-- 'cretulalaw03.TreeEncodes': WHATEVER THE INPUT: true; the input reads as it did. -/
def treeEncodesSpec : ChangeSpec := { name := "treeEncodes", fn := fun _ => fun
  | [d] => { results := [.lit (.bool true)], args := [d] }
  | _ => none }
def treeEncodesRow : OpenClaim := { program := "ytoomdaljdbennaa", sum := "0da8095646d87b8c972ce8be91e617fd1ced0a4f09c888a7e2633f1ea3475b30", func := "cretula/cretulalaw03.TreeEncodes", spec := "treeEncodes", unfollowed := true, recurses := true, loops := true, apart := false }
def TreeEncodesSaid : Prop := treeEncodesRow.holds Try.pinned (OpenSpec.ofChange treeEncodesSpec)

/-- ITS FALSE NEIGHBOUR: 'it returns false'. Refute it at one input. -/
def treeEncodesWrong : ChangeSpec := { name := "treeEncodes", fn := fun _ => fun
  | [d] => { results := [.lit (.bool false)], args := [d] }
  | _ => none }
def TreeEncodesWrongFalsely : Prop := treeEncodesRow.holds Try.pinned (OpenSpec.ofChange treeEncodesWrong)

/-- 'cretulalaw03.TreeOnce': WHATEVER THE INPUT: true; the input reads as it did. -/
def treeOnceSpec : ChangeSpec := { name := "treeOnce", fn := fun _ => fun
  | [d1, d2, d3] => { results := [.lit (.bool true)], args := [d1, d2, d3] }
  | _ => none }
def treeOnceRow : OpenClaim := { program := "ytoomdaljdbennaa", sum := "0da8095646d87b8c972ce8be91e617fd1ced0a4f09c888a7e2633f1ea3475b30", func := "cretula/cretulalaw03.TreeOnce", spec := "treeOnce", unfollowed := true, recurses := true, apart := false }
def TreeOnceSaid : Prop := treeOnceRow.holds Try.pinned (OpenSpec.ofChange treeOnceSpec)

/-- ITS FALSE NEIGHBOUR: 'it returns false'. Refute it at one input. -/
def treeOnceWrong : ChangeSpec := { name := "treeOnce", fn := fun _ => fun
  | [d1, d2, d3] => { results := [.lit (.bool false)], args := [d1, d2, d3] }
  | _ => none }
def TreeOnceWrongFalsely : Prop := treeOnceRow.holds Try.pinned (OpenSpec.ofChange treeOnceWrong)

/-- 'cretulalaw03.TreeDepths': WHATEVER THE INPUT: true; the input reads as it did. -/
def treeDepthsSpec : ChangeSpec := { name := "treeDepths", fn := fun _ => fun
  | [d1, d2, d3] => { results := [.lit (.bool true)], args := [d1, d2, d3] }
  | _ => none }
def treeDepthsRow : OpenClaim := { program := "ytoomdaljdbennaa", sum := "0da8095646d87b8c972ce8be91e617fd1ced0a4f09c888a7e2633f1ea3475b30", func := "cretula/cretulalaw03.TreeDepths", spec := "treeDepths", unfollowed := true, recurses := true, apart := false }
def TreeDepthsSaid : Prop := treeDepthsRow.holds Try.pinned (OpenSpec.ofChange treeDepthsSpec)

/-- ITS FALSE NEIGHBOUR: 'it returns false'. Refute it at one input. -/
def treeDepthsWrong : ChangeSpec := { name := "treeDepths", fn := fun _ => fun
  | [d1, d2, d3] => { results := [.lit (.bool false)], args := [d1, d2, d3] }
  | _ => none }
def TreeDepthsWrongFalsely : Prop := treeDepthsRow.holds Try.pinned (OpenSpec.ofChange treeDepthsWrong)

/-- 'cretulalaw03.TreeFinds': WHATEVER THE INPUT: true; the input reads as it did. -/
def treeFindsSpec : ChangeSpec := { name := "treeFinds", fn := fun _ => fun
  | [d1, d2] => { results := [.lit (.bool true)], args := [d1, d2] }
  | _ => none }
def treeFindsRow : OpenClaim := { program := "ytoomdaljdbennaa", sum := "0da8095646d87b8c972ce8be91e617fd1ced0a4f09c888a7e2633f1ea3475b30", func := "cretula/cretulalaw03.TreeFinds", spec := "treeFinds", unfollowed := true, recurses := true, apart := false }
def TreeFindsSaid : Prop := treeFindsRow.holds Try.pinned (OpenSpec.ofChange treeFindsSpec)

/-- ITS FALSE NEIGHBOUR: 'it returns false'. Refute it at one input. -/
def treeFindsWrong : ChangeSpec := { name := "treeFinds", fn := fun _ => fun
  | [d1, d2] => { results := [.lit (.bool false)], args := [d1, d2] }
  | _ => none }
def TreeFindsWrongFalsely : Prop := treeFindsRow.holds Try.pinned (OpenSpec.ofChange treeFindsWrong)

/-- 'cretulalaw03.TreePrefix': WHATEVER THE INPUT: true; the input reads as it did. -/
def treePrefixSpec : ChangeSpec := { name := "treePrefix", fn := fun _ => fun
  | [d1, d2] => { results := [.lit (.bool true)], args := [d1, d2] }
  | _ => none }
def treePrefixRow : OpenClaim := { program := "ytoomdaljdbennaa", sum := "0da8095646d87b8c972ce8be91e617fd1ced0a4f09c888a7e2633f1ea3475b30", func := "cretula/cretulalaw03.TreePrefix", spec := "treePrefix", unfollowed := true, recurses := true, loops := true, apart := false }
def TreePrefixSaid : Prop := treePrefixRow.holds Try.pinned (OpenSpec.ofChange treePrefixSpec)

/-- ITS FALSE NEIGHBOUR: 'it returns false'. Refute it at one input. -/
def treePrefixWrong : ChangeSpec := { name := "treePrefix", fn := fun _ => fun
  | [d1, d2] => { results := [.lit (.bool false)], args := [d1, d2] }
  | _ => none }
def TreePrefixWrongFalsely : Prop := treePrefixRow.holds Try.pinned (OpenSpec.ofChange treePrefixWrong)

/-- 'cretulalaw03.TreeCopies': WHATEVER THE INPUT: true; the input reads as it did. -/
def treeCopiesSpec : ChangeSpec := { name := "treeCopies", fn := fun _ => fun
  | [d] => { results := [.lit (.bool true)], args := [d] }
  | _ => none }
def treeCopiesRow : OpenClaim := { program := "ytoomdaljdbennaa", sum := "0da8095646d87b8c972ce8be91e617fd1ced0a4f09c888a7e2633f1ea3475b30", func := "cretula/cretulalaw03.TreeCopies", spec := "treeCopies", unfollowed := true, recurses := true, apart := false }
def TreeCopiesSaid : Prop := treeCopiesRow.holds Try.pinned (OpenSpec.ofChange treeCopiesSpec)

/-- ITS FALSE NEIGHBOUR: 'it returns false'. Refute it at one input. -/
def treeCopiesWrong : ChangeSpec := { name := "treeCopies", fn := fun _ => fun
  | [d] => { results := [.lit (.bool false)], args := [d] }
  | _ => none }
def TreeCopiesWrongFalsely : Prop := treeCopiesRow.holds Try.pinned (OpenSpec.ofChange treeCopiesWrong)

/- THE SECOND FORM. 'bulk': how many values and letters a reading holds, each counted each time it is reached (what is shared counts as often as it is met; a slice's spare places count too). A statement '..UptoSaid' is the law's where the arguments, and the package variables that the reading takes, are together of bulk at most 1048576: NARROWER than '..Said'. Prove '..Said' where nothing that the law and all that it calls make is longer than what came in: it says more and counts as full. Else prove '..UptoSaid'. A law counts once. -/
mutual
def uptoBulk {H : Type} : DataW H → Nat
  | .lit (.string bytes) => bytes.length + 1
  | .lit _ => 1
  | .nil => 1
  | .ptr d => uptoBulk d + 1
  | .slice elems spare => uptoBulkAll elems + uptoBulkAll spare + 1
  | .agg parts => uptoBulkAll parts + 1
  | .iface _ d => uptoBulk d + 1
  | .map entries => uptoBulkEntries entries + 1
  | .held _ => 1
def uptoBulkAll {H : Type} : List (DataW H) → Nat
  | [] => 0
  | d :: r => uptoBulk d + uptoBulkAll r
def uptoBulkEntries {H : Type} : List (Lit × DataW H) → Nat
  | [] => 0
  | x :: r => uptoBulkEntry x + uptoBulkEntries r
def uptoBulkEntry {H : Type} : Lit × DataW H → Nat
  | (.string bytes, d) => bytes.length + uptoBulk d + 1
  | (_, d) => uptoBulk d + 1
 end
def uptoSmall : (H : Type) → List (DataW H) → Bool := fun _ ds => decide (uptoBulkAll ds ≤ 1048576)
def OpenSpec.upto (s : _root_.Go.ChangeSpec) : _root_.Go.OpenSpec := { _root_.Go.OpenSpec.ofChange s with cond := some uptoSmall }

/-- 'cretulalaw03.TreeParses', WHERE WHAT IT READS IS OF BULK AT MOST 1048576: true; the input reads as it did. -/
def treeParsesUptoRow : OpenClaim := { program := "ytoomdaljdbennaa", sum := "0da8095646d87b8c972ce8be91e617fd1ced0a4f09c888a7e2633f1ea3475b30", func := "cretula/cretulalaw03.TreeParses", spec := "treeParses", unfollowed := true, recurses := true, apart := false, narrowed := true }
def TreeParsesUptoSaid : Prop := treeParsesUptoRow.holds Try.pinned (OpenSpec.upto treeParsesSpec)

/-- 'cretulalaw03.TreeEncodes', WHERE WHAT IT READS IS OF BULK AT MOST 1048576: true; the input reads as it did. -/
def treeEncodesUptoRow : OpenClaim := { program := "ytoomdaljdbennaa", sum := "0da8095646d87b8c972ce8be91e617fd1ced0a4f09c888a7e2633f1ea3475b30", func := "cretula/cretulalaw03.TreeEncodes", spec := "treeEncodes", unfollowed := true, recurses := true, loops := true, apart := false, narrowed := true }
def TreeEncodesUptoSaid : Prop := treeEncodesUptoRow.holds Try.pinned (OpenSpec.upto treeEncodesSpec)

/-- 'cretulalaw03.TreeOnce', WHERE WHAT IT READS IS OF BULK AT MOST 1048576: true; the input reads as it did. -/
def treeOnceUptoRow : OpenClaim := { program := "ytoomdaljdbennaa", sum := "0da8095646d87b8c972ce8be91e617fd1ced0a4f09c888a7e2633f1ea3475b30", func := "cretula/cretulalaw03.TreeOnce", spec := "treeOnce", unfollowed := true, recurses := true, apart := false, narrowed := true }
def TreeOnceUptoSaid : Prop := treeOnceUptoRow.holds Try.pinned (OpenSpec.upto treeOnceSpec)

/-- 'cretulalaw03.TreeDepths', WHERE WHAT IT READS IS OF BULK AT MOST 1048576: true; the input reads as it did. -/
def treeDepthsUptoRow : OpenClaim := { program := "ytoomdaljdbennaa", sum := "0da8095646d87b8c972ce8be91e617fd1ced0a4f09c888a7e2633f1ea3475b30", func := "cretula/cretulalaw03.TreeDepths", spec := "treeDepths", unfollowed := true, recurses := true, apart := false, narrowed := true }
def TreeDepthsUptoSaid : Prop := treeDepthsUptoRow.holds Try.pinned (OpenSpec.upto treeDepthsSpec)

/-- 'cretulalaw03.TreeFinds', WHERE WHAT IT READS IS OF BULK AT MOST 1048576: true; the input reads as it did. -/
def treeFindsUptoRow : OpenClaim := { program := "ytoomdaljdbennaa", sum := "0da8095646d87b8c972ce8be91e617fd1ced0a4f09c888a7e2633f1ea3475b30", func := "cretula/cretulalaw03.TreeFinds", spec := "treeFinds", unfollowed := true, recurses := true, apart := false, narrowed := true }
def TreeFindsUptoSaid : Prop := treeFindsUptoRow.holds Try.pinned (OpenSpec.upto treeFindsSpec)

/-- 'cretulalaw03.TreePrefix', WHERE WHAT IT READS IS OF BULK AT MOST 1048576: true; the input reads as it did. -/
def treePrefixUptoRow : OpenClaim := { program := "ytoomdaljdbennaa", sum := "0da8095646d87b8c972ce8be91e617fd1ced0a4f09c888a7e2633f1ea3475b30", func := "cretula/cretulalaw03.TreePrefix", spec := "treePrefix", unfollowed := true, recurses := true, loops := true, apart := false, narrowed := true }
def TreePrefixUptoSaid : Prop := treePrefixUptoRow.holds Try.pinned (OpenSpec.upto treePrefixSpec)

/-- 'cretulalaw03.TreeCopies', WHERE WHAT IT READS IS OF BULK AT MOST 1048576: true; the input reads as it did. -/
def treeCopiesUptoRow : OpenClaim := { program := "ytoomdaljdbennaa", sum := "0da8095646d87b8c972ce8be91e617fd1ced0a4f09c888a7e2633f1ea3475b30", func := "cretula/cretulalaw03.TreeCopies", spec := "treeCopies", unfollowed := true, recurses := true, apart := false, narrowed := true }
def TreeCopiesUptoSaid : Prop := treeCopiesUptoRow.holds Try.pinned (OpenSpec.upto treeCopiesSpec)

end Rows
end Go.Proofs.Ytoomdaljdbennaa
