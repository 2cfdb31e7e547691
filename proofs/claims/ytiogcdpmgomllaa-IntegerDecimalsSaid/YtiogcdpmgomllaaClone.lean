/- The walk of slices.Clone on bytes. -/
import Derived.Test.YtiogcdpmgomllaaCurE
import Derived.StillTailTactics
set_option linter.unusedSimpArgs false
set_option linter.unusedVariables false
namespace Go.Proofs.Ytiogcdpmgomllaa.Cur
open Go.RowKit Kit

set_option maxHeartbeats 1000000 in
theorem clone_any (A : Option Addr) (n c : Nat) (l : List UInt8) (w : World) {B : Nat} (hr : Rd w B A n l) (hn : n ≤ 140737488355328) (hB : B ≤ w.heap.size) :
    Calls Try.prog 16 #[.slice A n c] w fun e w' => ∃ A' c', e = .returned (.slice A' n c') ∧ Own w' w.heap.size A' n c' l ∧ Below w.heap.size w w' := by
  have keq := fun (w : World) => Lib.run_eql_slice_nil (P := Try.prog) w 22 5 A n c 0 0 Try.underlying22
  rcases A with _ | ad
  · have hn0 : n = 0 := by
      rcases Nat.eq_zero_or_pos n with h0 | h0
      · exact h0
      · obtain ⟨_, e, _⟩ := hr.2 h0; cases e
    have hl : l = [] := List.eq_nil_of_length_eq_zero (hr.len.trans hn0)
    subst hn0 hl
    go_enter Try.func16, Try.ntmps16
    go_wp2
    go_ret
    exact ⟨none, 0, rfl, Own.none_ _ _, Below.refl _ _⟩
  · go_enter Try.func16, Try.ntmps16
    have ho := Own.lit (base := w.heap.size) w [] (Nat.le_refl _) (Nat.zero_le _)
    go_wp2_with (first | (at_builtin; refine app rfl (.tmp 5) (.tmp 6) rfl rfl ho rfl (hr.alloc hB _) (by omega) (by simp) ?_; intro A' c' w' ho' hg' hb' hs'))
    go_ret
    simp only [List.length_nil, Nat.zero_add, List.nil_append] at ho'
    exact ⟨A', c', by simp, ho', ((Below.refl _ _).alloc (Nat.le_refl _) _).trans hb'⟩

end Go.Proofs.Ytiogcdpmgomllaa.Cur
