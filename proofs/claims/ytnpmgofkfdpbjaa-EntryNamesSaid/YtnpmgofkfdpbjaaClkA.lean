/- Walks over the package clock and its reference: leap years, days of a month, validity. -/
import Derived.Test.YtnpmgofkfdpbjaaPlClk
import Derived.Test.YtnpmgofkfdpbjaaKit
import Derived.Handy
set_option linter.unusedSimpArgs false
set_option linter.unusedVariables false
namespace Go.Proofs.Ytnpmgofkfdpbjaa.Clk
open Go.RowKit Kit

set_option maxHeartbeats 400000 in
theorem leap_any (y : Int) (w : World) (h : 0 ≤ y) :
    Calls Try.prog 159 #[.int .i64 y] w fun e w' => e = .returned (.bool (leapB y)) ∧ w = w' := by
  go_enter Try.func159, Try.ntmps159
  go_wp2
  all_goals
    go_ret
    exact ⟨ret_bool (by simp [leapB, *]), rfl⟩

theorem info_int : (Try.prog.info? 3).map (fun i => i.size) = some 1 := by kernel_rfl

def tab : List Int := [31, 28, 31, 30, 31, 30, 31, 31, 30, 31, 30, 31]
/-- the table at an index -/
def tabAt (i : Int) : Int := tab.getD i.toNat 0
theorem tab_days {y m : Int} (h0 : 0 ≤ y) (h1 : y ≤ 9999) (h2 : 1 ≤ m) (h3 : m ≤ 12) (h : ¬ (m = 2 ∧ leapB y = true)) : tabAt (m - 1) = days y m := by
  unfold tabAt
  have hm : m = 1 ∨ m = 2 ∨ m = 3 ∨ m = 4 ∨ m = 5 ∨ m = 6 ∨ m = 7 ∨ m = 8 ∨ m = 9 ∨ m = 10 ∨ m = 11 ∨ m = 12 := by omega
  rcases hm with rfl | rfl | rfl | rfl | rfl | rfl | rfl | rfl | rfl | rfl | rfl | rfl
  all_goals first
    | (rw [days_31 h0 h1 (by omega)]; rfl)
    | (rw [days_30 h0 h1 (by omega)]; rfl)
    | (rw [days_feb h0 h1 (by simpa using h)]; rfl)

/-- the table of the months' days at an index -/
theorem run_tab (i : Int) (h0 : 0 ≤ i) (h1 : i < 12) (w : World) :
    (Instr.index 162 (.agg #[.int .i64 31, .int .i64 28, .int .i64 31, .int .i64 30, .int .i64 31, .int .i64 30, .int .i64 31, .int .i64 31, .int .i64 30, .int .i64 31, .int .i64 30, .int .i64 31]) (.int .i64 i)).run Try.prog w = .ok (.int .i64 (tabAt i)) w := by
  unfold tabAt
  have hi := info_int
  cases hq : Try.prog.info? 3 with
  | none => rw [hq] at hi; cases hi
  | some inf =>
    rw [hq] at hi
    refine run_index_arr w Try.underlying162 Try.underlying3 hq (by simpa using hi) h0 (by simpa using h1) ?_
    have hm : i = 0 ∨ i = 1 ∨ i = 2 ∨ i = 3 ∨ i = 4 ∨ i = 5 ∨ i = 6 ∨ i = 7 ∨ i = 8 ∨ i = 9 ∨ i = 10 ∨ i = 11 := by omega
    rcases hm with rfl | rfl | rfl | rfl | rfl | rfl | rfl | rfl | rfl | rfl | rfl | rfl <;> rfl

set_option maxHeartbeats 400000 in
theorem days_any (y m : Int) (w : World) :
    Calls Try.prog 138 #[.int .i64 y, .int .i64 m] w fun e w' => e = .returned (.int .i64 (days y m)) ∧ w = w' := by
  by_cases hb : y < 0 ∨ 9999 < y ∨ m < 1 ∨ 12 < m
  · have H := Lib.hid (days_zero hb)
    by_cases h1 : y < 0 <;> by_cases h2 : 9999 < y <;> by_cases h3 : m < 1 <;> by_cases h4 : 12 < m
    all_goals first
      | (exfalso; omega)
      | (clear hb; go_enter Try.func138, Try.ntmps138; go_wp2; go_ret; exact ⟨ret_int H.out.symm, rfl⟩)
  · have hy0 : 0 ≤ y := by omega
    have hy1 : y ≤ 9999 := by omega
    have hm0 : 1 ≤ m := by omega
    have hm1 : m ≤ 12 := by omega
    clear hb
    by_cases h2 : m = 2
    · subst h2
      cases hl : leapB y
      · have H := Lib.hid (days_feb hy0 hy1 hl)
        have HL := Lib.hid hl
        clear hl
        have hix := run_tab 1 (by omega) (by omega)
        go_enter Try.func138, Try.ntmps138
        go_wp2_with (go_at_call 159; refine (leap_any _ _ (by omega)).mono ?_; rw [HL.out]; rintro e w' ⟨rfl, rfl⟩)
        go_ret
        exact ⟨ret_int H.out.symm, rfl⟩
      · have H := Lib.hid (days_feb_leap hy0 hy1 hl)
        have HL := Lib.hid hl
        clear hl
        go_enter Try.func138, Try.ntmps138
        go_wp2_with (go_at_call 159; refine (leap_any _ _ (by omega)).mono ?_; rw [HL.out]; rintro e w' ⟨rfl, rfl⟩)
        go_ret
        exact ⟨ret_int H.out.symm, rfl⟩
    · have H := Lib.hid (tab_days hy0 hy1 hm0 hm1 (fun h => h2 h.1))
      have hix := run_tab (m - 1) (by omega) (by omega)
      go_enter Try.func138, Try.ntmps138
      go_wp2
      go_ret
      exact ⟨ret_int H.out, rfl⟩

set_option maxHeartbeats 1000000 in
theorem refdays_any (y m : Int) (w : World) :
    Calls Try.prog 140 #[.int .i64 y, .int .i64 m] w fun e w' => e = .returned (.int .i64 (days y m)) ∧ w = w' := by
  by_cases hb : y < 0 ∨ 9999 < y
  · have H := Lib.hid (days_zero (m := m) (by omega : y < 0 ∨ 9999 < y ∨ m < 1 ∨ 12 < m))
    by_cases h1 : y < 0 <;> by_cases h2 : 9999 < y
    all_goals first
      | (exfalso; omega)
      | (clear hb; go_enter Try.func140, Try.ntmps140; go_wp2; go_ret; exact ⟨ret_int H.out.symm, rfl⟩)
  · have hy0 : 0 ≤ y := by omega
    have hy1 : y ≤ 9999 := by omega
    clear hb
    go_enter Try.func140, Try.ntmps140
    go_wp2
    all_goals go_ret
    all_goals refine ⟨ret_int ?_, rfl⟩
    all_goals simp only [beq_iff_eq, beq_eq_false_iff_ne, ne_eq, bne_iff_ne, bne_eq_false_iff_eq] at *
    all_goals first
      | (rw [days_31 hy0 hy1 (by omega)]; done)
      | (rw [days_30 hy0 hy1 (by omega)]; done)
      | (rw [days_zero (by omega)]; done)
      | (obtain rfl : m = 2 := by omega
         rw [days_two hy0 hy1]
         split <;> (first | rfl | (exfalso; omega)))

/-- a point in time as a value -/
abbrev time (y m d h mi s : Int) : Value := .agg #[.int .i64 y, .int .i64 m, .int .i64 d, .int .i64 h, .int .i64 mi, .int .i64 s]

theorem clock_cases (h mi s : Int) : (0 ≤ h ∧ h < 24 ∧ 0 ≤ mi ∧ mi < 60 ∧ 0 ≤ s ∧ s < 60) ∨ h < 0 ∨ (0 ≤ h ∧ 24 ≤ h) ∨ (0 ≤ h ∧ h < 24 ∧ mi < 0) ∨ (0 ≤ h ∧ h < 24 ∧ 0 ≤ mi ∧ 60 ≤ mi) ∨
    (0 ≤ h ∧ h < 24 ∧ 0 ≤ mi ∧ mi < 60 ∧ s < 0) ∨ (0 ≤ h ∧ h < 24 ∧ 0 ≤ mi ∧ mi < 60 ∧ 0 ≤ s ∧ 60 ≤ s) := by omega

set_option maxHeartbeats 1000000 in
theorem valid_any (y m d h mi s : Int) (w : World) :
    Calls Try.prog 86 #[time y m d h mi s] w fun e w' => e = .returned (.bool (validB y m d h mi s)) ∧ Below w.heap.size w w' := by
  rcases clock_cases h mi s with ⟨c1, c2, c3, c4, c5, c6⟩ | c | c | c | c | c | c
  · by_cases hd : 1 ≤ d
    · go_enter Try.func86, Try.ntmps86
      go_wp2
      go_quiet ((go_at_call 138; exact Kit.quiet_same (days_any _ _ _)))
      go_wp2
      go_ret
      exact ⟨ret_bool (by unfold validB; simp [*]), (by repeat' (first | (with_reducible exact Below.refl _ _) | (with_reducible assumption) | (with_reducible refine below_drewN ?_ _) | (with_reducible refine Below.drew ?_) | (with_reducible refine Below.alloc ?_ ?_ _) | (with_reducible refine Below.setCell ?_ ?_ _) | go_size))⟩
    · have hdd : decide (1 ≤ d) = false := by simpa using hd
      go_enter Try.func86, Try.ntmps86
      go_wp2
      go_quiet (fail)
      go_wp2
      go_ret
      exact ⟨ret_bool (by unfold validB; simp [*]), (by repeat' (first | (with_reducible exact Below.refl _ _) | (with_reducible assumption) | (with_reducible refine below_drewN ?_ _) | (with_reducible refine Below.drew ?_) | (with_reducible refine Below.alloc ?_ ?_ _) | (with_reducible refine Below.setCell ?_ ?_ _) | go_size))⟩
  all_goals
    have H := Lib.hid (show validB y m d h mi s = false from by unfold validB; simp; omega)
    have hl : decide (s < 60) = false ∨ True := .inr trivial
    try (replace hl : decide (s < 60) = false := by (simp; omega))
    go_enter Try.func86, Try.ntmps86
    go_wp2
    go_quiet (fail)
    go_wp2
    go_ret
    exact ⟨ret_bool H.out.symm, (by repeat' (first | (with_reducible exact Below.refl _ _) | (with_reducible assumption) | (with_reducible refine below_drewN ?_ _) | (with_reducible refine Below.drew ?_) | (with_reducible refine Below.alloc ?_ ?_ _) | (with_reducible refine Below.setCell ?_ ?_ _) | go_size))⟩

theorem in_true (n lo hi : Int) (w : World) (h : lo ≤ n ∧ n ≤ hi) :
    Calls Try.prog 139 #[.int .i64 n, .int .i64 lo, .int .i64 hi] w fun e w' => e = .returned (.bool true) ∧ w = w' := by
  obtain ⟨h1, h2⟩ := h
  go_enter Try.func139, Try.ntmps139
  go_wp2
  go_ret
  exact ⟨rfl, rfl⟩
theorem in_false (n lo hi : Int) (w : World) (h : n < lo ∨ hi < n) :
    Calls Try.prog 139 #[.int .i64 n, .int .i64 lo, .int .i64 hi] w fun e w' => e = .returned (.bool false) ∧ w = w' := by
  by_cases h1 : n < lo
  · clear h
    go_enter Try.func139, Try.ntmps139
    go_wp2
    go_ret
    exact ⟨rfl, rfl⟩
  · have h2 : hi < n := by omega
    clear h
    go_enter Try.func139, Try.ntmps139
    go_wp2
    go_ret
    exact ⟨ret_bool (by simp; omega), rfl⟩

set_option maxHeartbeats 1000000 in
theorem refvalid_any (y m d h mi s : Int) (w : World) :
    Calls Try.prog 87 #[time y m d h mi s] w fun e w' => e = .returned (.bool (validB y m d h mi s)) ∧ Below w.heap.size w w' := by
  by_cases hd : 1 ≤ d ∧ d ≤ days y m
  · by_cases hh : 0 ≤ h ∧ h ≤ 23
    · by_cases hm : 0 ≤ mi ∧ mi ≤ 59
      · by_cases hs : 0 ≤ s ∧ s ≤ 59
        · have H := Lib.hid (show validB y m d h mi s = true from by rw [valid_iff]; omega)
          go_enter Try.func87, Try.ntmps87
          go_wp2
          go_quiet (first | (go_at_call 140; exact Kit.quiet_same (refdays_any _ _ _)) | (go_at_call 139; exact Kit.quiet_same (in_true _ _ _ _ (by omega))))
          go_wp2
          go_ret
          exact ⟨ret_bool H.out.symm, (by repeat' (first | (with_reducible exact Below.refl _ _) | (with_reducible assumption) | (with_reducible refine below_drewN ?_ _) | (with_reducible refine Below.drew ?_) | (with_reducible refine Below.alloc ?_ ?_ _) | (with_reducible refine Below.setCell ?_ ?_ _) | go_size))⟩
        · have H := Lib.hid (show validB y m d h mi s = false from by unfold validB; simp; omega)
          go_enter Try.func87, Try.ntmps87
          go_wp2
          go_quiet (first | (go_at_call 140; exact Kit.quiet_same (refdays_any _ _ _)) | (go_at_call 139; exact Kit.quiet_same (in_true _ _ _ _ (by omega))) | (go_at_call 139; exact Kit.quiet_same (in_false _ _ _ _ (by omega))))
          go_wp2
          go_ret
          exact ⟨ret_bool H.out.symm, (by repeat' (first | (with_reducible exact Below.refl _ _) | (with_reducible assumption) | (with_reducible refine below_drewN ?_ _) | (with_reducible refine Below.drew ?_) | (with_reducible refine Below.alloc ?_ ?_ _) | (with_reducible refine Below.setCell ?_ ?_ _) | go_size))⟩
      · have H := Lib.hid (show validB y m d h mi s = false from by unfold validB; simp; omega)
        go_enter Try.func87, Try.ntmps87
        go_wp2
        go_quiet (first | (go_at_call 140; exact Kit.quiet_same (refdays_any _ _ _)) | (go_at_call 139; exact Kit.quiet_same (in_true _ _ _ _ (by omega))) | (go_at_call 139; exact Kit.quiet_same (in_false _ _ _ _ (by omega))))
        go_wp2
        go_ret
        exact ⟨ret_bool H.out.symm, (by repeat' (first | (with_reducible exact Below.refl _ _) | (with_reducible assumption) | (with_reducible refine below_drewN ?_ _) | (with_reducible refine Below.drew ?_) | (with_reducible refine Below.alloc ?_ ?_ _) | (with_reducible refine Below.setCell ?_ ?_ _) | go_size))⟩
    · have H := Lib.hid (show validB y m d h mi s = false from by unfold validB; simp; omega)
      go_enter Try.func87, Try.ntmps87
      go_wp2
      go_quiet (first | (go_at_call 140; exact Kit.quiet_same (refdays_any _ _ _)) | (go_at_call 139; exact Kit.quiet_same (in_true _ _ _ _ (by omega))) | (go_at_call 139; exact Kit.quiet_same (in_false _ _ _ _ (by omega))))
      go_wp2
      go_ret
      exact ⟨ret_bool H.out.symm, (by repeat' (first | (with_reducible exact Below.refl _ _) | (with_reducible assumption) | (with_reducible refine below_drewN ?_ _) | (with_reducible refine Below.drew ?_) | (with_reducible refine Below.alloc ?_ ?_ _) | (with_reducible refine Below.setCell ?_ ?_ _) | go_size))⟩
  · have H := Lib.hid (show validB y m d h mi s = false from by unfold validB; simp; omega)
    go_enter Try.func87, Try.ntmps87
    go_wp2
    go_quiet (first | (go_at_call 140; exact Kit.quiet_same (refdays_any _ _ _)) | (go_at_call 139; exact Kit.quiet_same (in_true _ _ _ _ (by omega))) | (go_at_call 139; exact Kit.quiet_same (in_false _ _ _ _ (by omega))))
    go_wp2
    go_ret
    exact ⟨ret_bool H.out.symm, (by repeat' (first | (with_reducible exact Below.refl _ _) | (with_reducible assumption) | (with_reducible refine below_drewN ?_ _) | (with_reducible refine Below.drew ?_) | (with_reducible refine Below.alloc ?_ ?_ _) | (with_reducible refine Below.setCell ?_ ?_ _) | go_size))⟩
end Go.Proofs.Ytnpmgofkfdpbjaa.Clk
