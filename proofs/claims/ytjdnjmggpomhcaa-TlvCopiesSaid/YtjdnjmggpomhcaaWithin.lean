/- Walks: cretulabase.Within, where it answers yes. -/
import Derived.Test.YtjdnjmggpomhcaaKit
set_option linter.unusedSimpArgs false
set_option linter.unusedVariables false
namespace Go.Proofs.Ytjdnjmggpomhcaa.Kit
open Go.RowKit

set_option maxHeartbeats 1000000 in
theorem within_ok (n : Int) (w : World) : Calls Try.prog 50 #[.agg #[.int .i64 0, .int .i64 0], .int .i64 n] w fun e w' => e = .returned (.bool true) ∧ Below w.heap.size w w' := by
  go_enter Try.func50, Try.ntmps50
  go_wp2
  go_ret
  exact ⟨rfl, (by repeat' (first | (with_reducible exact Below.refl _ _) | (with_reducible assumption) | (with_reducible refine below_drewN ?_ _) | (with_reducible refine Below.drew ?_) | (with_reducible refine Below.alloc ?_ ?_ _) | (with_reducible refine Below.setCell ?_ ?_ _) | go_size))⟩
set_option maxHeartbeats 1000000 in
theorem within_err (c o n : Int) (w : World) (hc : 0 < c) (h0 : 0 ≤ o) (h1 : o ≤ n) : Calls Try.prog 50 #[.agg #[.int .i64 c, .int .i64 o], .int .i64 n] w fun e w' => e = .returned (.bool true) ∧ Below w.heap.size w w' := by
  have hc' : ¬ c = 0 := by omega
  go_enter Try.func50, Try.ntmps50
  go_wp2
  go_ret
  exact ⟨(by first | rfl | exact ret_bool (by simp [*])), (by repeat' (first | (with_reducible exact Below.refl _ _) | (with_reducible assumption) | (with_reducible refine below_drewN ?_ _) | (with_reducible refine Below.drew ?_) | (with_reducible refine Below.alloc ?_ ?_ _) | (with_reducible refine Below.setCell ?_ ?_ _) | go_size))⟩
end Go.Proofs.Ytjdnjmggpomhcaa.Kit
