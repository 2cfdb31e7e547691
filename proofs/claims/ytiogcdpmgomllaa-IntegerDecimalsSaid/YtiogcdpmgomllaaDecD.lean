/- Walks: strings.CutPrefix with a minus sign. -/
import Derived.Test.YtiogcdpmgomllaaPlDecB
import Derived.Test.YtiogcdpmgomllaaLit
import Derived.Lib.Strings
set_option linter.unusedSimpArgs false
set_option linter.unusedVariables false
namespace Go.Proofs.Ytiogcdpmgomllaa.Int4
open Go.RowKit Kit Tlv Cur

theorem hasS_prefix (s : List UInt8) : Lib.hasPrefix s [45] = hasS s := by
  cases s with
  | nil => rfl
  | cons x t =>
    simp only [Lib.hasPrefix, hasS, List.isPrefixOf, Bool.and_true]
    rw [Bool.eq_iff_iff, decide_eq_true_eq, beq_iff_eq]
    constructor
    · intro h; rw [← h]; rfl
    · intro h; exact (UInt8.toNat_inj.1 (by rw [h]; rfl)).symm
theorem numS_prefix (s : List UInt8) : Lib.trimPrefix s [45] = numS s := by
  unfold Lib.trimPrefix numS
  rw [hasS_prefix]
  rfl
theorem minus_toList : ({ data := #[45] } : ByteArray).data.toList = [45] := rfl

set_option maxHeartbeats 1000000 in
theorem hasprefix_any (s : ByteArray) (w : World) :
    Calls Try.prog 32 #[.string s, .string { data := #[45] }] w fun e w' => e = .returned (.bool (hasS s.data.toList)) ∧ w = w' := by
  have hraw := Lib.hasPrefix_raw s { data := #[45] }
  rw [minus_toList, hasS_prefix] at hraw
  have HR := Lib.hid hraw
  have hsz : ({ data := #[45] } : ByteArray).size = 1 := rfl
  by_cases h1 : 1 ≤ s.size
  · have h1z : (1 : Int) ≤ (s.size : Int) := by omega
    clear hraw
    go_enter Try.func32, Try.ntmps32
    go_wp2
    all_goals
      go_ret
      refine ⟨?_, rfl⟩
      rw [← HR.out, hsz]
      simp [h1]
  · have hf : hasS s.data.toList = false := by rw [← hraw, hsz]; simp [h1]
    rw [hf]
    have h1z : ¬ (1 : Int) ≤ (s.size : Int) := by omega
    clear hraw HR hf
    go_enter Try.func32, Try.ntmps32
    go_wp2
    all_goals
      go_ret
      exact ⟨by first | rfl | simp, rfl⟩
set_option maxHeartbeats 1000000 in
theorem litcut_any (s : ByteArray) (w : World) :
    Calls Try.prog 28 #[.string s, .string { data := #[45] }] w fun e w' => e = .returned (.tuple #[.string ⟨(numS s.data.toList).toArray⟩, .bool (hasS s.data.toList)]) ∧ w = w' := by
  have hraw := Lib.hasPrefix_raw s { data := #[45] }
  rw [minus_toList, hasS_prefix] at hraw
  have hsz : ({ data := #[45] } : ByteArray).size = 1 := rfl
  have HP := Lib.hid (hasprefix_any s w)
  cases hh : hasS s.data.toList with
  | true =>
    rw [hh] at hraw HP
    rw [Bool.and_eq_true, decide_eq_true_eq] at hraw
    have ht := Lib.trimPrefix_hit s { data := #[45] } hraw.1 hraw.2
    rw [minus_toList, numS_prefix] at ht
    rw [ht, hsz]
    have h1 : 1 ≤ s.size := hraw.1
    have h1z : (1 : Int) ≤ (s.size : Int) := by omega
    clear hraw ht hh
    go_enter Try.func28, Try.ntmps28
    go_wp2_with fail
    go_must (go_fit HP.out)
    rintro e w' ⟨rfl, rfl⟩
    go_wp2
    all_goals
      go_ret2
      exact ⟨rfl, rfl⟩
  | false =>
    rw [hh] at hraw HP
    have ht := Lib.trimPrefix_miss s { data := #[45] } hraw
    rw [minus_toList, numS_prefix] at ht
    rw [ht]
    clear hraw ht hh
    go_enter Try.func28, Try.ntmps28
    go_wp2_with fail
    go_must (go_fit HP.out)
    rintro e w' ⟨rfl, rfl⟩
    go_wp2
    go_ret2
    exact ⟨rfl, rfl⟩
set_option maxHeartbeats 1000000 in
/-- CUTPREFIX with a minus sign -/
theorem cutprefix_any (s : ByteArray) (w : World) :
    Calls Try.prog 20 #[.string s, .string { data := #[45] }] w fun e w' => e = .returned (.tuple #[.string ⟨(numS s.data.toList).toArray⟩, .bool (hasS s.data.toList)]) ∧ w = w' := by
  have HP := Lib.hid (litcut_any s w)
  generalize (⟨(numS s.data.toList).toArray⟩ : ByteArray) = T at *
  generalize hasS s.data.toList = q at *
  go_enter Try.func20, Try.ntmps20
  go_wp2_with fail
  go_must (go_fit HP.out)
  rintro e w' ⟨rfl, rfl⟩
  go_wp2
  go_ret2
  exact ⟨rfl, rfl⟩
end Go.Proofs.Ytiogcdpmgomllaa.Int4
