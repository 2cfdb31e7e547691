/- Small laws on bit operations, in the walk's spelling. -/
import Derived.Test.YtiogcdpmgomllaaKit
set_option linter.unusedSimpArgs false
set_option linter.unusedVariables false
namespace Go.Proofs.Ytiogcdpmgomllaa.Kit
open Go.RowKit
theorem u64_shl8_or (v : Nat) (b : Int) (hv : v < 72057594037927936) (h0 : 0 ≤ b) (h1 : b ≤ 255) :
    bits .or .u64 ((v : Int) * 256) b = (v : Int) * 256 + b := by
  have e : ((v : Int) * 256) = ((v * 256 : Nat) : Int) := by omega
  obtain ⟨c, rfl⟩ := Int.eq_ofNat_of_zero_le h0
  rw [e, u64_or_nat (v * 256) c (by omega) (by omega), nat_join 8 (v * 256) c (by omega) (by omega)]
  omega
end Go.Proofs.Ytiogcdpmgomllaa.Kit
