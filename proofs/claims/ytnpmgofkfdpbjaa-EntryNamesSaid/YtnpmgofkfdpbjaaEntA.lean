/- Walks: the names of reasons, of the package entry and of its reference. -/
import Derived.Test.YtnpmgofkfdpbjaaKit
import Derived.Handy
set_option linter.unusedSimpArgs false
set_option linter.unusedVariables false
namespace Go.Proofs.Ytnpmgofkfdpbjaa.Ent
open Go.RowKit Kit

/-- the names; the empty one is none -/
def nmS : Nat → ByteArray
  | 0 => { data := #[117, 110, 115, 112, 101, 99, 105, 102, 105, 101, 100] }
  | 1 => { data := #[107, 101, 121, 67, 111, 109, 112, 114, 111, 109, 105, 115, 101] }
  | 2 => { data := #[99, 65, 67, 111, 109, 112, 114, 111, 109, 105, 115, 101] }
  | 3 => { data := #[97, 102, 102, 105, 108, 105, 97, 116, 105, 111, 110, 67, 104, 97, 110, 103, 101, 100] }
  | 4 => { data := #[115, 117, 112, 101, 114, 115, 101, 100, 101, 100] }
  | 5 => { data := #[99, 101, 115, 115, 97, 116, 105, 111, 110, 79, 102, 79, 112, 101, 114, 97, 116, 105, 111, 110] }
  | 6 => { data := #[99, 101, 114, 116, 105, 102, 105, 99, 97, 116, 101, 72, 111, 108, 100] }
  | 7 => { data := #[] }
  | 8 => { data := #[114, 101, 109, 111, 118, 101, 70, 114, 111, 109, 67, 82, 76] }
  | 9 => { data := #[112, 114, 105, 118, 105, 108, 101, 103, 101, 87, 105, 116, 104, 100, 114, 97, 119, 110] }
  | 10 => { data := #[97, 65, 67, 111, 109, 112, 114, 111, 109, 105, 115, 101] }
  | _ => { data := #[] }
def nmA : Array Value := #[.string { data := #[117, 110, 115, 112, 101, 99, 105, 102, 105, 101, 100] }, .string { data := #[107, 101, 121, 67, 111, 109, 112, 114, 111, 109, 105, 115, 101] }, .string { data := #[99, 65, 67, 111, 109, 112, 114, 111, 109, 105, 115, 101] }, .string { data := #[97, 102, 102, 105, 108, 105, 97, 116, 105, 111, 110, 67, 104, 97, 110, 103, 101, 100] }, .string { data := #[115, 117, 112, 101, 114, 115, 101, 100, 101, 100] }, .string { data := #[99, 101, 115, 115, 97, 116, 105, 111, 110, 79, 102, 79, 112, 101, 114, 97, 116, 105, 111, 110] }, .string { data := #[99, 101, 114, 116, 105, 102, 105, 99, 97, 116, 101, 72, 111, 108, 100] }, .string { data := #[] }, .string { data := #[114, 101, 109, 111, 118, 101, 70, 114, 111, 109, 67, 82, 76] }, .string { data := #[112, 114, 105, 118, 105, 108, 101, 103, 101, 87, 105, 116, 104, 100, 114, 97, 119, 110] }, .string { data := #[97, 65, 67, 111, 109, 112, 114, 111, 109, 105, 115, 101] }]
theorem nmA_at (k : Nat) (hk : k < 11) : nmA[k]? = some (.string (nmS k)) := by
  rcases (by omega : k = 0 ∨ k = 1 ∨ k = 2 ∨ k = 3 ∨ k = 4 ∨ k = 5 ∨ k = 6 ∨ k = 7 ∨ k = 8 ∨ k = 9 ∨ k = 10) with rfl | rfl | rfl | rfl | rfl | rfl | rfl | rfl | rfl | rfl | rfl <;> rfl
/-- the name of a reason -/
def nameV (r : Int) : ByteArray := if r < 0 ∨ 11 ≤ r then { data := #[] } else nmS r.toNat
def validR (r : Int) : Bool := decide (0 ≤ r ∧ r ≤ 10 ∧ r ≠ 7)
theorem nmS_empty (k : Nat) (hk : k < 11) : nmS k = { data := #[] } ↔ k = 7 := by
  rcases (by omega : k = 0 ∨ k = 1 ∨ k = 2 ∨ k = 3 ∨ k = 4 ∨ k = 5 ∨ k = 6 ∨ k = 7 ∨ k = 8 ∨ k = 9 ∨ k = 10) with rfl | rfl | rfl | rfl | rfl | rfl | rfl | rfl | rfl | rfl | rfl <;> decide

set_option maxRecDepth 100000 in
set_option maxHeartbeats 4000000 in
theorem names_any (w : World) : Calls Try.prog 78 #[] w fun e w' => e = .returned (.agg nmA) ∧ Below w.heap.size w w' := by
  go_enter Try.func78, Try.ntmps78
  go_wp2
  refine bodyPost_ret (v := .agg #[.string { data := #[117, 110, 115, 112, 101, 99, 105, 102, 105, 101, 100] }, .string { data := #[107, 101, 121, 67, 111, 109, 112, 114, 111, 109, 105, 115, 101] }, .string { data := #[99, 65, 67, 111, 109, 112, 114, 111, 109, 105, 115, 101] }, .string { data := #[97, 102, 102, 105, 108, 105, 97, 116, 105, 111, 110, 67, 104, 97, 110, 103, 101, 100] }, .string { data := #[115, 117, 112, 101, 114, 115, 101, 100, 101, 100] }, .string { data := #[99, 101, 115, 115, 97, 116, 105, 111, 110, 79, 102, 79, 112, 101, 114, 97, 116, 105, 111, 110] }, .string { data := #[99, 101, 114, 116, 105, 102, 105, 99, 97, 116, 101, 72, 111, 108, 100] }, .string { data := #[] }, .string { data := #[114, 101, 109, 111, 118, 101, 70, 114, 111, 109, 67, 82, 76] }, .string { data := #[112, 114, 105, 118, 105, 108, 101, 103, 101, 87, 105, 116, 104, 100, 114, 97, 119, 110] }, .string { data := #[97, 65, 67, 111, 109, 112, 114, 111, 109, 105, 115, 101] }]) (by simp [results, Try.results78, go_sem, *]) rfl ?_
  exact ⟨rfl, (by repeat' (first | (with_reducible exact Below.refl _ _) | (with_reducible assumption) | (with_reducible refine below_drewN ?_ _) | (with_reducible refine Below.drew ?_) | (with_reducible refine Below.alloc ?_ ?_ _) | (with_reducible refine Below.setCell ?_ ?_ _) | go_size))⟩

set_option maxRecDepth 100000 in
set_option maxHeartbeats 4000000 in
theorem name_any (r : Int) (w : World) : Calls Try.prog 20 #[.int .i64 r] w fun e w' => e = .returned (.string (nameV r)) ∧ Below w.heap.size w w' := by
  have NA := Lib.hid names_any
  by_cases h : r < 0 ∨ 11 ≤ r
  · have F := Lib.hid (show nameV r = { data := #[] } from by unfold nameV; rw [if_pos h])
    have h' : r < 0 ∨ (¬ r < 0 ∧ 11 ≤ r) := by omega
    clear h
    rcases h' with h | ⟨h, h2⟩
    all_goals
      go_enter Try.func20, Try.ntmps20
      go_wp2_with (go_at_call 78; refine (NA.out _).mono ?_; rintro e w1 ⟨rfl, hb⟩; unfold nmA)
      go_ret
      exact ⟨by rw [F.out]; rfl, hb.alloc hb.size _⟩
  · obtain ⟨k, rfl⟩ := Int.eq_ofNat_of_zero_le (show 0 ≤ r from by omega)
    have hk : k < 11 := by omega
    have F := Lib.hid (show nameV (k : Int) = nmS k from by unfold nameV; rw [if_neg h]; rfl)
    have AT := Lib.hid (nmA_at k hk)
    have h1 : ¬ (k : Int) < 0 := by omega
    have h2 : ¬ (11 : Int) ≤ (k : Int) := by omega
    have h3 : (k : Int) < 11 := by omega
    clear h
    go_enter Try.func20, Try.ntmps20
    go_wp2_with fail
    refine (NA.out _).mono ?_
    rintro e w1 ⟨rfl, hb⟩
    have ck : (w1.alloc (.cells nmA 86)).cell? ⟨w1.heap.size, k, none⟩ = some (.string (nmS k)) := by
      rw [cell_of_row _ w1.heap.size k _ _ _ (heap_alloc_new w1 _)]; exact AT.out
    have bel := hb.alloc hb.size (.cells nmA 86)
    unfold nmA at ck bel ⊢
    go_wp2
    go_ret
    exact ⟨by rw [F.out]; rfl, bel⟩
end Go.Proofs.Ytnpmgofkfdpbjaa.Ent
