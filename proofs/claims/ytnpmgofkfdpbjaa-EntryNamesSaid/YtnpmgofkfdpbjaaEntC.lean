/- Walks: list, Name and Find of the reference. -/
import Derived.Test.YtnpmgofkfdpbjaaEntB
set_option linter.unusedSimpArgs false
set_option linter.unusedVariables false
namespace Go.Proofs.Ytnpmgofkfdpbjaa.Ent
open Go.RowKit Kit

theorem rmS_all (k : Nat) (hk : k < 11) : (#[
  .string { data := #[117, 110, 115, 112, 101, 99, 105, 102, 105, 101, 100] },
  .string { data := #[107, 101, 121, 67, 111, 109, 112, 114, 111, 109, 105, 115, 101] },
  .string { data := #[99, 65, 67, 111, 109, 112, 114, 111, 109, 105, 115, 101] },
  .string { data := #[97, 102, 102, 105, 108, 105, 97, 116, 105, 111, 110, 67, 104, 97, 110, 103, 101, 100] },
  .string { data := #[115, 117, 112, 101, 114, 115, 101, 100, 101, 100] },
  .string { data := #[99, 101, 115, 115, 97, 116, 105, 111, 110, 79, 102, 79, 112, 101, 114, 97, 116, 105, 111, 110] },
  .string { data := #[99, 101, 114, 116, 105, 102, 105, 99, 97, 116, 101, 72, 111, 108, 100] },
  .string { data := #[45] },
  .string { data := #[114, 101, 109, 111, 118, 101, 70, 114, 111, 109, 67, 82, 76] },
  .string { data := #[112, 114, 105, 118, 105, 108, 101, 103, 101, 87, 105, 116, 104, 100, 114, 97, 119, 110] },
  .string { data := #[97, 65, 67, 111, 109, 112, 114, 111, 109, 105, 115, 101] }
] : Array Value)[k]? = some (.string (rmS k)) := by
  rcases (by omega : k = 0 ∨ k = 1 ∨ k = 2 ∨ k = 3 ∨ k = 4 ∨ k = 5 ∨ k = 6 ∨ k = 7 ∨ k = 8 ∨ k = 9 ∨ k = 10) with rfl | rfl | rfl | rfl | rfl | rfl | rfl | rfl | rfl | rfl | rfl <;> rfl
/-- what list returns -/
def LiP (w : World) (e : Ending) (w' : World) : Prop := ∃ g, e = .returned (.slice (some ⟨g, 0, none⟩) 11 11) ∧ g < w'.heap.size ∧ (∀ k, k < 11 → w'.cell? ⟨g, k, none⟩ = some (.string (rmS k))) ∧ Below w.heap.size w w'

set_option maxRecDepth 100000 in
set_option maxHeartbeats 4000000 in
theorem list_any (w : World) : Calls Try.prog 79 #[] w (LiP w) := by
  have AT := Lib.hid rmS_all
  go_enter Try.func79, Try.ntmps79
  go_wp2
  go_ret
  refine ⟨w.heap.size, rfl, by simp, fun k hk => ?_, (by repeat' (first | (with_reducible exact Below.refl _ _) | (with_reducible assumption) | (with_reducible refine below_drewN ?_ _) | (with_reducible refine Below.drew ?_) | (with_reducible refine Below.alloc ?_ ?_ _) | (with_reducible refine Below.setCell ?_ ?_ _) | go_size))⟩
  rw [cell_of_row _ w.heap.size k _ _ _ (heap_alloc_new w _)]
  exact AT.out k hk
theorem nameV_ok {k : Nat} (hk : k < 11) : nameV (k : Int) = nmS k := by unfold nameV; rw [if_neg (by omega)]; rfl
theorem nameV_bad {r : Int} (h : validR r = false) : nameV r = { data := #[] } := by
  unfold validR at h
  rw [decide_eq_false_iff_not] at h
  unfold nameV
  by_cases g : r < 0 ∨ 11 ≤ r
  · rw [if_pos g]
  · rw [if_neg g]
    obtain rfl : r = 7 := by omega
    rfl

set_option maxRecDepth 100000 in
set_option maxHeartbeats 4000000 in
theorem refname_any (r : Int) (w : World) : Calls Try.prog 23 #[.int .i64 r] w fun e w' => e = .returned (.string (nameV r)) ∧ Below w.heap.size w w' := by
  have VA := Lib.hid (fun w => refvalidR_any r w)
  have LI := Lib.hid list_any
  cases hv : validR r with
  | false =>
    have F := Lib.hid (nameV_bad hv)
    rw [hv] at VA
    clear hv
    go_enter Try.func23, Try.ntmps23
    go_wp2_with (go_at_call 36; refine (VA.out _).mono ?_; rintro e w' ⟨rfl, rfl⟩)
    go_ret
    exact ⟨by rw [F.out]; rfl, (by repeat' (first | (with_reducible exact Below.refl _ _) | (with_reducible assumption) | (with_reducible refine below_drewN ?_ _) | (with_reducible refine Below.drew ?_) | (with_reducible refine Below.alloc ?_ ?_ _) | (with_reducible refine Below.setCell ?_ ?_ _) | go_size))⟩
  | true =>
    rw [hv] at VA
    unfold validR at hv
    rw [decide_eq_true_eq] at hv
    obtain ⟨k, rfl⟩ := Int.eq_ofNat_of_zero_le hv.1
    have hk : k < 11 := by omega
    have F := Lib.hid (nameV_ok hk)
    have R := Lib.hid (show rmS k = nmS k from by unfold rmS; rw [if_neg (by omega)])
    have hk1 : (k : Int) < 11 := by omega
    clear hv
    go_enter Try.func23, Try.ntmps23
    go_wp2_with fail
    refine (VA.out _).mono ?_
    rintro e w' ⟨rfl, rfl⟩
    go_wp2_with fail
    refine (LI.out _).mono ?_
    rintro e w1 ⟨g, rfl, hg, hc, hb⟩
    have ck := hc k hk
    rw [R.out] at ck
    clear hc
    go_wp2
    go_ret
    exact ⟨by rw [F.out]; rfl, hb⟩

set_option maxRecDepth 100000 in
set_option maxHeartbeats 4000000 in
theorem reffind_any (name : ByteArray) (w : World) : Calls Try.prog 22 #[.string name] w fun e w' => e = .returned (.tuple #[.int .i64 (findV name).1, .bool (findV name).2]) ∧ Below w.heap.size w w' := by
  have VA := Lib.hid refvalidR_any
  have NA := Lib.hid refname_any
  go_enter Try.func22, Try.ntmps22
  go_wp2
  go_loopw [4] (fun i wr => ∃ k : Nat, k ≤ 11 ∧ i = .int .i64 (k : Int) ∧ Below w.heap.size w wr ∧ Hid (∀ j, j < k → ¬ (nmS j = name ∧ j ≠ 7))) (fun i _ => 11 - (intOf i).toNat)
  case atStart => exact ⟨0, by omega, rfl, Below.refl _ _, Lib.hid (fun j hj => by omega)⟩
  case round =>
    obtain ⟨k, hk, rfl, bel, hh⟩ := hrel
    by_cases hlt : k < 11
    · have hkk : (k : Int) ≤ 10 := by omega
      have V := Lib.hid (fun w => VA.out (k : Int) w)
      have N := Lib.hid (fun w => NA.out (k : Int) w)
      rw [nameV_ok hlt] at N
      by_cases h7 : k = 7
      · have hs := Lib.hid (show ∀ j, j < k + 1 → ¬ (nmS j = name ∧ j ≠ 7) from fun j hj => by
          rcases (by omega : j < k ∨ j = k) with h | rfl
          · exact hh.out j h
          · omega)
        rw [show validR (k : Int) = false from by unfold validR; rw [decide_eq_false_iff_not]; omega] at V
        clear hh h7
        go_wp2_with (go_at_call 36; refine (V.out _).mono ?_; rintro e w' ⟨rfl, rfl⟩)
        go_roundw
        case rel => exact ⟨k + 1, by omega, by go_num, bel, hs⟩
        case measure => simp [intOf]; omega
      · rw [show validR (k : Int) = true from by unfold validR; rw [decide_eq_true_eq]; omega] at V
        by_cases h1 : nmS k = name
        · have F := Lib.hid (find_hit hlt hh.out ⟨h1, h7⟩)
          rw [h1] at N
          clear hh h7 h1
          go_wp2_with (first | (go_at_call 36; refine (V.out _).mono ?_; rintro e w' ⟨rfl, rfl⟩) | (go_at_call 23; refine (N.out _).mono ?_; rintro e w2 ⟨rfl, hb⟩))
          go_ret2
          exact ⟨by rw [F.out]; rfl, bel.trans (hb.mono bel.size)⟩
        · have hs := Lib.hid (show ∀ j, j < k + 1 → ¬ (nmS j = name ∧ j ≠ 7) from fun j hj => by
            rcases (by omega : j < k ∨ j = k) with h | rfl
            · exact hh.out j h
            · exact fun h => h1 h.1)
          have h1' := str_ne h1
          clear hh h7 h1
          generalize nmS k = t at *
          go_wp2_with (first | (go_at_call 36; refine (V.out _).mono ?_; rintro e w' ⟨rfl, rfl⟩) | (go_at_call 23; refine (N.out _).mono ?_; rintro e w2 ⟨rfl, hb⟩))
          go_roundw
          case rel => exact ⟨k + 1, by omega, by go_num, bel.trans (hb.mono bel.size), hs⟩
          case measure => simp [intOf]; omega
    · obtain rfl : k = 11 := by omega
      have F := Lib.hid (show findV name = (0, false) from find_none hh.out)
      clear hh
      go_wp2
      go_ret2
      exact ⟨by rw [F.out]; rfl, bel⟩
end Go.Proofs.Ytnpmgofkfdpbjaa.Ent
