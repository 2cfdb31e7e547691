/- Walks over the reference of the package cursor: comparison, numbers. -/
import Derived.Test.YtiogcdpmgomllaaCurA
import Derived.Test.YtiogcdpmgomllaaBit
set_option linter.unusedSimpArgs false
set_option linter.unusedVariables false
namespace Go.Proofs.Ytiogcdpmgomllaa.Cur
open Go.RowKit Kit


theorem be_cast {l : List UInt8} {k : Nat} (h : k < l.length) : ((be (l.take (k + 1)) : Nat) : Int) = (be (l.take k) : Int) * 256 + bt l k := by
  rw [be_step h]; unfold bt; omega

end Go.Proofs.Ytiogcdpmgomllaa.Cur
