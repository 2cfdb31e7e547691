/- Walks: digits without zeros; unsigned numbers, of the package integer and of its reference. -/
import Derived.Test.YtnpmgofkfdpbjaaIntC
import Derived.Test.YtnpmgofkfdpbjaaPlIntB
import Derived.Test.YtnpmgofkfdpbjaaConcat2
import Derived.Test.YtnpmgofkfdpbjaaClone
set_option linter.unusedSimpArgs false
set_option linter.unusedVariables false
namespace Go.Proofs.Ytnpmgofkfdpbjaa.Int4
open Go.RowKit Kit Tlv

theorem add_next (ad : Addr) (k : Nat) : (⟨(ad.add k).block, (ad.add k).off + 1, none⟩ : Addr) = ad.add (k + 1) := by rw [← add_one', Kit.add_add]

end Go.Proofs.Ytnpmgofkfdpbjaa.Int4
