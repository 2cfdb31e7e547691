/- Plain mathematics of the calendar: leap years, days of a month, valid points in time. No program in sight. -/
namespace Go.Proofs.Ytnpmgofkfdpbjaa.Clk

/-- a leap year -/
def leapB (y : Int) : Bool := y % 4 == 0 && (y % 100 != 0 || y % 400 == 0)

/-- the number of days of a month -/
def days (y m : Int) : Int :=
  if y < 0 ∨ 9999 < y ∨ m < 1 ∨ 12 < m then 0
  else if m = 2 then (if leapB y = true then 29 else 28)
  else if m = 4 ∨ m = 6 ∨ m = 9 ∨ m = 11 then 30 else 31

theorem days_zero {y m : Int} (h : y < 0 ∨ 9999 < y ∨ m < 1 ∨ 12 < m) : days y m = 0 := by unfold days; rw [if_pos h]
theorem days_feb_leap {y : Int} (h0 : 0 ≤ y) (h1 : y ≤ 9999) (h : leapB y = true) : days y 2 = 29 := by
  unfold days; rw [if_neg (by omega), if_pos rfl, if_pos h]
theorem days_feb {y : Int} (h0 : 0 ≤ y) (h1 : y ≤ 9999) (h : leapB y = false) : days y 2 = 28 := by
  unfold days; rw [if_neg (by omega), if_pos rfl, if_neg (by rw [h]; simp)]
theorem leap_iff {y : Int} : leapB y = true ↔ (y % 4 = 0 ∧ (y % 100 ≠ 0 ∨ y % 400 = 0)) := by unfold leapB; simp
theorem days_two {y : Int} (h0 : 0 ≤ y) (h1 : y ≤ 9999) : days y 2 = if y % 400 = 0 ∨ (y % 4 = 0 ∧ y % 100 ≠ 0) then 29 else 28 := by
  cases hl : leapB y
  · have h : ¬ leapB y = true := by rw [hl]; simp
    rw [leap_iff] at h
    rw [days_feb h0 h1 hl, if_neg (by omega)]
  · have h := hl
    rw [leap_iff] at h
    rw [days_feb_leap h0 h1 hl, if_pos (by omega)]
theorem days_30 {y m : Int} (h0 : 0 ≤ y) (h1 : y ≤ 9999) (h : m = 4 ∨ m = 6 ∨ m = 9 ∨ m = 11) : days y m = 30 := by
  unfold days; rw [if_neg (by omega), if_neg (by omega), if_pos h]
theorem days_31 {y m : Int} (h0 : 0 ≤ y) (h1 : y ≤ 9999) (h : m = 1 ∨ m = 3 ∨ m = 5 ∨ m = 7 ∨ m = 8 ∨ m = 10 ∨ m = 12) : days y m = 31 := by
  unfold days; rw [if_neg (by omega), if_neg (by omega), if_neg (by omega)]
theorem days_bd (y m : Int) : 0 ≤ days y m ∧ days y m ≤ 31 := by
  unfold days; repeat' split
  all_goals omega

/-- a valid point in time -/
def validB (y m d h mi s : Int) : Bool :=
  decide (0 ≤ h ∧ h < 24 ∧ 0 ≤ mi ∧ mi < 60 ∧ 0 ≤ s ∧ s < 60 ∧ 1 ≤ d ∧ d ≤ days y m)
theorem valid_iff {y m d h mi s : Int} : validB y m d h mi s = true ↔ (0 ≤ h ∧ h < 24 ∧ 0 ≤ mi ∧ mi < 60 ∧ 0 ≤ s ∧ s < 60 ∧ 1 ≤ d ∧ d ≤ days y m) := by
  unfold validB; exact decide_eq_true_iff
end Go.Proofs.Ytnpmgofkfdpbjaa.Clk
