/- The walk of ClockDays. -/
import Derived.Test.YtkkgcfllfhkoaaaClkR
set_option linter.unusedSimpArgs false
set_option linter.unusedVariables false
namespace Go.Proofs.Ytkkgcfllfhkoaaa
open Go.RowKit Kit Clk

theorem Clk.valid_day (y m d : Int) : validB y m d 0 0 0 = (decide (1 ≤ d) && decide (d ≤ days y m)) := by
  unfold validB
  rw [← Bool.decide_and]
  exact decide_eq_decide.2 ⟨fun h => ⟨h.2.2.2.2.2.2.1, h.2.2.2.2.2.2.2⟩, fun h => ⟨by omega, by omega, by omega, by omega, by omega, by omega, h.1, h.2⟩⟩

set_option maxHeartbeats 1000000 in
theorem ClockDays.walk (a0 a1 a2 : Int) (W : World) (_ : -9223372036854775808 ≤ a0 ∧ a0 ≤ 9223372036854775807) (_ : -9223372036854775808 ≤ a1 ∧ a1 ≤ 9223372036854775807) (_ : -9223372036854775808 ≤ a2 ∧ a2 ≤ 9223372036854775807) :
    Calls Try.prog 3 #[.int .i64 a0, .int .i64 a1, .int .i64 a2] W fun e w' => e = .returned (.bool true) ∧ Below W.heap.size W w' := by
  have HV := Lib.hid (fun w => valid_any a0 a1 a2 0 0 0 w)
  rw [valid_day] at HV
  have HD := Lib.hid (fun w => days_any a0 a1 w)
  have HR := Lib.hid (fun w => refdays_any a0 a1 w)
  generalize days a0 a1 = n at *
  by_cases hd : 1 ≤ a2 <;> by_cases hx : a2 ≤ n
  all_goals
    try rw [decide_eq_true hd] at HV
    try rw [decide_eq_false hd] at HV
    try rw [decide_eq_true hx] at HV
    try rw [decide_eq_false hx] at HV
    try simp only [Bool.and_true, Bool.and_false, Bool.true_and, Bool.false_and] at HV
    go_enter Try.func3, Try.ntmps3
    go_wp2_with (first
      | (go_at_call 13; refine (awake8_any _).mono ?_; rintro e w1 ⟨rfl, hb1⟩)
      | (go_at_call 14; refine (HD.out _).mono ?_; rintro e w2 ⟨rfl, rfl⟩)
      | (go_at_call 15; refine (HR.out _).mono ?_; rintro e w2 ⟨rfl, rfl⟩)
      | (go_at_call 16; refine (HV.out _).mono ?_; rintro e w3 ⟨rfl, hb3⟩))
    go_ret
    exact ⟨(by first | rfl | exact ret_bool (by simp; omega)), two_below hb1 hb3 hb1.size⟩
end Go.Proofs.Ytkkgcfllfhkoaaa
