/- Walks: minimal digits of a number, in the package cursor and in its reference. -/
import Derived.Test.YtiogcdpmgomllaaCurD
set_option linter.unusedSimpArgs false
set_option linter.unusedVariables false
namespace Go.Proofs.Ytiogcdpmgomllaa.Cur
open Go.RowKit Kit

theorem ofI_mod (x : Nat) : ofI ((x : Int) % 256) = UInt8.ofNat (x % 256) := by
  unfold ofI; congr 1
theorem ofI_div (x : Nat) (h : x < 256) : [ofI ((x : Int) % 256)] = minL x := by
  rw [minL_small h, ofI_mod, Nat.mod_eq_of_lt h]

/-- the loop of Minimal: the digits above, and those gathered below -/
def Gath (v x : Nat) (m : List UInt8) : Prop := if x = 0 then m.reverse = minL v else minL x ++ m.reverse = minL v
theorem gath_start {v : Nat} (hv : v < W64) : Gath v (v / 256) [ofI ((v : Int) % 256)] := by
  unfold Gath
  by_cases h : v < 256
  · rw [if_pos (by omega), List.reverse_singleton, ofI_div v h]
  · rw [if_neg (by omega), List.reverse_singleton, ofI_mod, ← minL_big (by omega) hv]
theorem gath_step {v x : Nat} {m : List UInt8} (h : Gath v x m) (hx : 0 < x) (hv : x < W64) : Gath v (x / 256) (m ++ [ofI ((x : Int) % 256)]) := by
  unfold Gath at h ⊢
  rw [if_neg (by omega)] at h
  rw [List.reverse_append, List.reverse_singleton]
  by_cases hs : x < 256
  · rw [if_pos (by omega), ofI_div x hs, h]
  · rw [if_neg (by omega), ← List.append_assoc, ofI_mod, ← minL_big (by omega) hv, h]
theorem gath_len {v x : Nat} {m : List UInt8} (h : Gath v x m) : m.length ≤ 8 := by
  unfold Gath at h
  have hl := (minL_len v).2
  split at h
  · rw [← h] at hl; simpa using hl
  · rw [← h] at hl; simp at hl; omega
theorem gath_end {v : Nat} {m : List UInt8} (h : Gath v 0 m) : m.reverse = minL v := by unfold Gath at h; simpa using h


end Go.Proofs.Ytiogcdpmgomllaa.Cur
