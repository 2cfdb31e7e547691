/- Walks over the reference of the package cursor: numbers. -/
import Derived.Test.YtiogcdpmgomllaaCurB
set_option linter.unusedSimpArgs false
set_option linter.unusedVariables false
namespace Go.Proofs.Ytiogcdpmgomllaa.Cur
open Go.RowKit Kit

theorem be_small8 {l : List UInt8} {k : Nat} (h : k < l.length) (h8 : l.length ≤ 8) : be (l.take k) < 72057594037927936 := by
  have h1 := be_step h
  have h2 := be_take_lt h8 (k + 1)
  unfold W64 at h2
  omega


end Go.Proofs.Ytiogcdpmgomllaa.Cur
