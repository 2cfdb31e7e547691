/- Joined texts: PlClk, PlClkB, ClkA, ClkB, FrameT. -/
import Derived.Handy
import Derived.Deep.RegionWith
import Derived.Lib.SmallJoins
import Derived.Test.YtnpmgofkfdpbjaaKA
set_option linter.unusedSimpArgs false
set_option linter.unusedVariables false
/- Plain mathematics of the calendar: leap years, days of a month, valid points in time. No program in sight. -/
namespace Go.Proofs.Ytnpmgofkfdpbjaa.Clk

/-- a leap year -/
def leapB (y : Int) : Bool := y % 4 == 0 && (y % 100 != 0 || y % 400 == 0)

/-- the number of days of a month -/
def days (y m : Int) : Int :=
  if y < 0 ∨ 9999 < y ∨ m < 1 ∨ 12 < m then 0
  else if m = 2 then (if leapB y = true then 29 else 28)
  else if m = 4 ∨ m = 6 ∨ m = 9 ∨ m = 11 then 30 else 31

theorem days_zero {y m : Int} (h : y < 0 ∨ 9999 < y ∨ m < 1 ∨ 12 < m) : days y m = 0 := by unfold days; rw [if_pos h]
theorem days_feb_leap {y : Int} (h0 : 0 ≤ y) (h1 : y ≤ 9999) (h : leapB y = true) : days y 2 = 29 := by
  unfold days; rw [if_neg (by omega), if_pos rfl, if_pos h]
theorem days_feb {y : Int} (h0 : 0 ≤ y) (h1 : y ≤ 9999) (h : leapB y = false) : days y 2 = 28 := by
  unfold days; rw [if_neg (by omega), if_pos rfl, if_neg (by rw [h]; simp)]
theorem leap_iff {y : Int} : leapB y = true ↔ (y % 4 = 0 ∧ (y % 100 ≠ 0 ∨ y % 400 = 0)) := by unfold leapB; simp
theorem days_two {y : Int} (h0 : 0 ≤ y) (h1 : y ≤ 9999) : days y 2 = if y % 400 = 0 ∨ (y % 4 = 0 ∧ y % 100 ≠ 0) then 29 else 28 := by
  cases hl : leapB y
  · have h : ¬ leapB y = true := by rw [hl]; simp
    rw [leap_iff] at h
    rw [days_feb h0 h1 hl, if_neg (by omega)]
  · have h := hl
    rw [leap_iff] at h
    rw [days_feb_leap h0 h1 hl, if_pos (by omega)]
theorem days_30 {y m : Int} (h0 : 0 ≤ y) (h1 : y ≤ 9999) (h : m = 4 ∨ m = 6 ∨ m = 9 ∨ m = 11) : days y m = 30 := by
  unfold days; rw [if_neg (by omega), if_neg (by omega), if_pos h]
theorem days_31 {y m : Int} (h0 : 0 ≤ y) (h1 : y ≤ 9999) (h : m = 1 ∨ m = 3 ∨ m = 5 ∨ m = 7 ∨ m = 8 ∨ m = 10 ∨ m = 12) : days y m = 31 := by
  unfold days; rw [if_neg (by omega), if_neg (by omega), if_neg (by omega)]
theorem days_bd (y m : Int) : 0 ≤ days y m ∧ days y m ≤ 31 := by
  unfold days; repeat' split
  all_goals omega

/-- a valid point in time -/
def validB (y m d h mi s : Int) : Bool :=
  decide (0 ≤ h ∧ h < 24 ∧ 0 ≤ mi ∧ mi < 60 ∧ 0 ≤ s ∧ s < 60 ∧ 1 ≤ d ∧ d ≤ days y m)
theorem valid_iff {y m d h mi s : Int} : validB y m d h mi s = true ↔ (0 ≤ h ∧ h < 24 ∧ 0 ≤ mi ∧ mi < 60 ∧ 0 ≤ s ∧ s < 60 ∧ 1 ≤ d ∧ d ≤ days y m) := by
  unfold validB; exact decide_eq_true_iff
end Go.Proofs.Ytnpmgofkfdpbjaa.Clk
/- Plain laws of the clock's contents octets: two digits, the encodings, what is decoded. No program in sight. -/
namespace Go.Proofs.Ytnpmgofkfdpbjaa.Clk
open Kit

/-- two decimal digits -/
def dig (n : Int) : List UInt8 := [ofI (48 + n / 10), ofI (48 + n % 10)]
theorem dig_len (n : Int) : (dig n).length = 2 := rfl
/-- what follows the year -/
def tailL (m d h mi s : Int) : List UInt8 := dig m ++ dig d ++ dig h ++ dig mi ++ dig s ++ [90]
def utcL (y m d h mi s : Int) : List UInt8 := dig (y % 100) ++ tailL m d h mi s
def genL (y m d h mi s : Int) : List UInt8 := dig (y / 100) ++ dig (y % 100) ++ tailL m d h mi s
def utcCode (y m d h mi s : Int) : Int := if validB y m d h mi s = true then (if y < 1950 ∨ 2049 < y then 9 else 0) else 8
def genCode (y m d h mi s : Int) : Int := if validB y m d h mi s = true then 0 else 8
def utcBytes (y m d h mi s : Int) : List UInt8 := if utcCode y m d h mi s = 0 then utcL y m d h mi s else []
def genBytes (y m d h mi s : Int) : List UInt8 := if genCode y m d h mi s = 0 then genL y m d h mi s else []

theorem valid_bd {y m d h mi s : Int} (hv : validB y m d h mi s = true) : 0 ≤ y ∧ y ≤ 9999 ∧ 1 ≤ m ∧ m ≤ 12 ∧ 1 ≤ d ∧ d ≤ 31 ∧ 0 ≤ h ∧ h ≤ 23 ∧ 0 ≤ mi ∧ mi ≤ 59 ∧ 0 ≤ s ∧ s ≤ 59 := by
  rw [valid_iff] at hv
  have hb := days_bd y m
  have hz : ¬ (y < 0 ∨ 9999 < y ∨ m < 1 ∨ 12 < m) := fun h => by have := days_zero h; omega
  omega

/-- the digits of five fields, one after the other -/
def digs (fs : List Int) : List UInt8 := fs.flatMap dig
theorem digs_snoc (fs : List Int) (n : Int) : digs (fs ++ [n]) = digs fs ++ dig n := by simp [digs]
theorem digs_len : ∀ (fs : List Int), (digs fs).length = 2 * fs.length
  | [] => rfl
  | n :: fs => by have := digs_len fs; simp only [digs, List.flatMap_cons, List.length_append, List.length_cons, dig_len] at this ⊢; omega
theorem digs_more {fs : List Int} {k : Nat} (h : k < fs.length) : digs (fs.take (k + 1)) = digs (fs.take k) ++ dig (fs.getD k 0) := by
  rw [List.take_succ_eq_append_getElem h, digs_snoc]
  simp [List.getD, List.getElem?_eq_getElem h]
theorem tail_digs (m d h mi s : Int) : tailL m d h mi s = digs [m, d, h, mi, s] ++ [90] := by simp [tailL, digs, List.append_assoc]

/-- a decimal digit of the reference -/
def digL (n : Int) : Nat → List UInt8
  | 0 => []
  | c + 1 => digL (n / 10) c ++ [ofI (48 + n % 10)]
theorem digL_two {n : Int} (h0 : 0 ≤ n) (h1 : n ≤ 99) : digL n 2 = dig n := by
  have e : n / 10 % 10 = n / 10 := by omega
  simp [digL, dig, e]
theorem digL_year2 {y : Int} (h0 : 0 ≤ y) : digL y 2 = dig (y % 100) := by
  have e1 : y / 10 % 10 = y % 100 / 10 := by omega
  have e2 : y % 10 = y % 100 % 10 := by omega
  show [] ++ [ofI (48 + y / 10 % 10)] ++ [ofI (48 + y % 10)] = [ofI (48 + y % 100 / 10), ofI (48 + y % 100 % 10)]
  rw [e1, e2]; rfl
theorem digL_year4 {y : Int} (h0 : 0 ≤ y) (h1 : y ≤ 9999) : digL y 4 = dig (y / 100) ++ dig (y % 100) := by
  have e1 : y / 10 / 10 / 10 % 10 = y / 100 / 10 := by omega
  have e2 : y / 10 / 10 % 10 = y / 100 % 10 := by omega
  have e3 : y / 10 % 10 = y % 100 / 10 := by omega
  have e4 : y % 10 = y % 100 % 10 := by omega
  show [] ++ [ofI (48 + y / 10 / 10 / 10 % 10)] ++ [ofI (48 + y / 10 / 10 % 10)] ++ [ofI (48 + y / 10 % 10)] ++ [ofI (48 + y % 10)] = [ofI (48 + y / 100 / 10), ofI (48 + y / 100 % 10)] ++ [ofI (48 + y % 100 / 10), ofI (48 + y % 100 % 10)]
  rw [e1, e2, e3, e4]; rfl
theorem digL_len (n : Int) : ∀ c, (digL n c).length = c := by
  intro c
  induction c generalizing n with
  | zero => rfl
  | succ c ih => simp [digL, ih]
end Go.Proofs.Ytnpmgofkfdpbjaa.Clk
/- Walks over the package clock and its reference: leap years, days of a month, validity. -/
namespace Go.Proofs.Ytnpmgofkfdpbjaa.Clk
open Go.RowKit Kit

set_option maxHeartbeats 400000 in
theorem leap_any (y : Int) (w : World) (h : 0 ≤ y) :
    Calls Try.prog 159 #[.int .i64 y] w fun e w' => e = .returned (.bool (leapB y)) ∧ w = w' := by
  go_enter Try.func159, Try.ntmps159
  go_wp2
  all_goals
    go_ret
    exact ⟨ret_bool (by simp [leapB, *]), rfl⟩

theorem info_int : (Try.prog.info? 3).map (fun i => i.size) = some 1 := by kernel_rfl

def tab : List Int := [31, 28, 31, 30, 31, 30, 31, 31, 30, 31, 30, 31]
/-- the table at an index -/
def tabAt (i : Int) : Int := tab.getD i.toNat 0
theorem tab_days {y m : Int} (h0 : 0 ≤ y) (h1 : y ≤ 9999) (h2 : 1 ≤ m) (h3 : m ≤ 12) (h : ¬ (m = 2 ∧ leapB y = true)) : tabAt (m - 1) = days y m := by
  unfold tabAt
  have hm : m = 1 ∨ m = 2 ∨ m = 3 ∨ m = 4 ∨ m = 5 ∨ m = 6 ∨ m = 7 ∨ m = 8 ∨ m = 9 ∨ m = 10 ∨ m = 11 ∨ m = 12 := by omega
  rcases hm with rfl | rfl | rfl | rfl | rfl | rfl | rfl | rfl | rfl | rfl | rfl | rfl
  all_goals first
    | (rw [days_31 h0 h1 (by omega)]; rfl)
    | (rw [days_30 h0 h1 (by omega)]; rfl)
    | (rw [days_feb h0 h1 (by simpa using h)]; rfl)

/-- the table of the months' days at an index -/
theorem run_tab (i : Int) (h0 : 0 ≤ i) (h1 : i < 12) (w : World) :
    (Instr.index 162 (.agg #[.int .i64 31, .int .i64 28, .int .i64 31, .int .i64 30, .int .i64 31, .int .i64 30, .int .i64 31, .int .i64 31, .int .i64 30, .int .i64 31, .int .i64 30, .int .i64 31]) (.int .i64 i)).run Try.prog w = .ok (.int .i64 (tabAt i)) w := by
  unfold tabAt
  have hi := info_int
  cases hq : Try.prog.info? 3 with
  | none => rw [hq] at hi; cases hi
  | some inf =>
    rw [hq] at hi
    refine run_index_arr w Try.underlying162 Try.underlying3 hq (by simpa using hi) h0 (by simpa using h1) ?_
    have hm : i = 0 ∨ i = 1 ∨ i = 2 ∨ i = 3 ∨ i = 4 ∨ i = 5 ∨ i = 6 ∨ i = 7 ∨ i = 8 ∨ i = 9 ∨ i = 10 ∨ i = 11 := by omega
    rcases hm with rfl | rfl | rfl | rfl | rfl | rfl | rfl | rfl | rfl | rfl | rfl | rfl <;> rfl

set_option maxHeartbeats 400000 in
theorem days_any (y m : Int) (w : World) :
    Calls Try.prog 138 #[.int .i64 y, .int .i64 m] w fun e w' => e = .returned (.int .i64 (days y m)) ∧ w = w' := by
  by_cases hb : y < 0 ∨ 9999 < y ∨ m < 1 ∨ 12 < m
  · have H := Lib.hid (days_zero hb)
    by_cases h1 : y < 0 <;> by_cases h2 : 9999 < y <;> by_cases h3 : m < 1 <;> by_cases h4 : 12 < m
    all_goals first
      | (exfalso; omega)
      | (clear hb; go_enter Try.func138, Try.ntmps138; go_wp2; go_ret; exact ⟨ret_int H.out.symm, rfl⟩)
  · have hy0 : 0 ≤ y := by omega
    have hy1 : y ≤ 9999 := by omega
    have hm0 : 1 ≤ m := by omega
    have hm1 : m ≤ 12 := by omega
    clear hb
    by_cases h2 : m = 2
    · subst h2
      cases hl : leapB y
      · have H := Lib.hid (days_feb hy0 hy1 hl)
        have HL := Lib.hid hl
        clear hl
        have hix := run_tab 1 (by omega) (by omega)
        go_enter Try.func138, Try.ntmps138
        go_wp2_with (go_at_call 159; refine (leap_any _ _ (by omega)).mono ?_; rw [HL.out]; rintro e w' ⟨rfl, rfl⟩)
        go_ret
        exact ⟨ret_int H.out.symm, rfl⟩
      · have H := Lib.hid (days_feb_leap hy0 hy1 hl)
        have HL := Lib.hid hl
        clear hl
        go_enter Try.func138, Try.ntmps138
        go_wp2_with (go_at_call 159; refine (leap_any _ _ (by omega)).mono ?_; rw [HL.out]; rintro e w' ⟨rfl, rfl⟩)
        go_ret
        exact ⟨ret_int H.out.symm, rfl⟩
    · have H := Lib.hid (tab_days hy0 hy1 hm0 hm1 (fun h => h2 h.1))
      have hix := run_tab (m - 1) (by omega) (by omega)
      go_enter Try.func138, Try.ntmps138
      go_wp2
      go_ret
      exact ⟨ret_int H.out, rfl⟩

set_option maxHeartbeats 1000000 in
theorem refdays_any (y m : Int) (w : World) :
    Calls Try.prog 140 #[.int .i64 y, .int .i64 m] w fun e w' => e = .returned (.int .i64 (days y m)) ∧ w = w' := by
  by_cases hb : y < 0 ∨ 9999 < y
  · have H := Lib.hid (days_zero (m := m) (by omega : y < 0 ∨ 9999 < y ∨ m < 1 ∨ 12 < m))
    by_cases h1 : y < 0 <;> by_cases h2 : 9999 < y
    all_goals first
      | (exfalso; omega)
      | (clear hb; go_enter Try.func140, Try.ntmps140; go_wp2; go_ret; exact ⟨ret_int H.out.symm, rfl⟩)
  · have hy0 : 0 ≤ y := by omega
    have hy1 : y ≤ 9999 := by omega
    clear hb
    go_enter Try.func140, Try.ntmps140
    go_wp2
    all_goals go_ret
    all_goals refine ⟨ret_int ?_, rfl⟩
    all_goals simp only [beq_iff_eq, beq_eq_false_iff_ne, ne_eq, bne_iff_ne, bne_eq_false_iff_eq] at *
    all_goals first
      | (rw [days_31 hy0 hy1 (by omega)]; done)
      | (rw [days_30 hy0 hy1 (by omega)]; done)
      | (rw [days_zero (by omega)]; done)
      | (obtain rfl : m = 2 := by omega
         rw [days_two hy0 hy1]
         split <;> (first | rfl | (exfalso; omega)))

/-- a point in time as a value -/
abbrev time (y m d h mi s : Int) : Value := .agg #[.int .i64 y, .int .i64 m, .int .i64 d, .int .i64 h, .int .i64 mi, .int .i64 s]

theorem clock_cases (h mi s : Int) : (0 ≤ h ∧ h < 24 ∧ 0 ≤ mi ∧ mi < 60 ∧ 0 ≤ s ∧ s < 60) ∨ h < 0 ∨ (0 ≤ h ∧ 24 ≤ h) ∨ (0 ≤ h ∧ h < 24 ∧ mi < 0) ∨ (0 ≤ h ∧ h < 24 ∧ 0 ≤ mi ∧ 60 ≤ mi) ∨
    (0 ≤ h ∧ h < 24 ∧ 0 ≤ mi ∧ mi < 60 ∧ s < 0) ∨ (0 ≤ h ∧ h < 24 ∧ 0 ≤ mi ∧ mi < 60 ∧ 0 ≤ s ∧ 60 ≤ s) := by omega

set_option maxHeartbeats 1000000 in
theorem valid_any (y m d h mi s : Int) (w : World) :
    Calls Try.prog 86 #[time y m d h mi s] w fun e w' => e = .returned (.bool (validB y m d h mi s)) ∧ Below w.heap.size w w' := by
  rcases clock_cases h mi s with ⟨c1, c2, c3, c4, c5, c6⟩ | c | c | c | c | c | c
  · by_cases hd : 1 ≤ d
    · go_enter Try.func86, Try.ntmps86
      go_wp2
      go_quiet ((go_at_call 138; exact Kit.quiet_same (days_any _ _ _)))
      go_wp2
      go_ret
      exact ⟨ret_bool (by unfold validB; simp [*]), (by repeat' (first | (with_reducible exact Below.refl _ _) | (with_reducible assumption) | (with_reducible refine below_drewN ?_ _) | (with_reducible refine Below.drew ?_) | (with_reducible refine Below.alloc ?_ ?_ _) | (with_reducible refine Below.setCell ?_ ?_ _) | go_size))⟩
    · have hdd : decide (1 ≤ d) = false := by simpa using hd
      go_enter Try.func86, Try.ntmps86
      go_wp2
      go_quiet (fail)
      go_wp2
      go_ret
      exact ⟨ret_bool (by unfold validB; simp [*]), (by repeat' (first | (with_reducible exact Below.refl _ _) | (with_reducible assumption) | (with_reducible refine below_drewN ?_ _) | (with_reducible refine Below.drew ?_) | (with_reducible refine Below.alloc ?_ ?_ _) | (with_reducible refine Below.setCell ?_ ?_ _) | go_size))⟩
  all_goals
    have H := Lib.hid (show validB y m d h mi s = false from by unfold validB; simp; omega)
    have hl : decide (s < 60) = false ∨ True := .inr trivial
    try (replace hl : decide (s < 60) = false := by (simp; omega))
    go_enter Try.func86, Try.ntmps86
    go_wp2
    go_quiet (fail)
    go_wp2
    go_ret
    exact ⟨ret_bool H.out.symm, (by repeat' (first | (with_reducible exact Below.refl _ _) | (with_reducible assumption) | (with_reducible refine below_drewN ?_ _) | (with_reducible refine Below.drew ?_) | (with_reducible refine Below.alloc ?_ ?_ _) | (with_reducible refine Below.setCell ?_ ?_ _) | go_size))⟩

theorem in_true (n lo hi : Int) (w : World) (h : lo ≤ n ∧ n ≤ hi) :
    Calls Try.prog 139 #[.int .i64 n, .int .i64 lo, .int .i64 hi] w fun e w' => e = .returned (.bool true) ∧ w = w' := by
  obtain ⟨h1, h2⟩ := h
  go_enter Try.func139, Try.ntmps139
  go_wp2
  go_ret
  exact ⟨rfl, rfl⟩
theorem in_false (n lo hi : Int) (w : World) (h : n < lo ∨ hi < n) :
    Calls Try.prog 139 #[.int .i64 n, .int .i64 lo, .int .i64 hi] w fun e w' => e = .returned (.bool false) ∧ w = w' := by
  by_cases h1 : n < lo
  · clear h
    go_enter Try.func139, Try.ntmps139
    go_wp2
    go_ret
    exact ⟨rfl, rfl⟩
  · have h2 : hi < n := by omega
    clear h
    go_enter Try.func139, Try.ntmps139
    go_wp2
    go_ret
    exact ⟨ret_bool (by simp; omega), rfl⟩

set_option maxHeartbeats 1000000 in
theorem refvalid_any (y m d h mi s : Int) (w : World) :
    Calls Try.prog 87 #[time y m d h mi s] w fun e w' => e = .returned (.bool (validB y m d h mi s)) ∧ Below w.heap.size w w' := by
  by_cases hd : 1 ≤ d ∧ d ≤ days y m
  · by_cases hh : 0 ≤ h ∧ h ≤ 23
    · by_cases hm : 0 ≤ mi ∧ mi ≤ 59
      · by_cases hs : 0 ≤ s ∧ s ≤ 59
        · have H := Lib.hid (show validB y m d h mi s = true from by rw [valid_iff]; omega)
          go_enter Try.func87, Try.ntmps87
          go_wp2
          go_quiet (first | (go_at_call 140; exact Kit.quiet_same (refdays_any _ _ _)) | (go_at_call 139; exact Kit.quiet_same (in_true _ _ _ _ (by omega))))
          go_wp2
          go_ret
          exact ⟨ret_bool H.out.symm, (by repeat' (first | (with_reducible exact Below.refl _ _) | (with_reducible assumption) | (with_reducible refine below_drewN ?_ _) | (with_reducible refine Below.drew ?_) | (with_reducible refine Below.alloc ?_ ?_ _) | (with_reducible refine Below.setCell ?_ ?_ _) | go_size))⟩
        · have H := Lib.hid (show validB y m d h mi s = false from by unfold validB; simp; omega)
          go_enter Try.func87, Try.ntmps87
          go_wp2
          go_quiet (first | (go_at_call 140; exact Kit.quiet_same (refdays_any _ _ _)) | (go_at_call 139; exact Kit.quiet_same (in_true _ _ _ _ (by omega))) | (go_at_call 139; exact Kit.quiet_same (in_false _ _ _ _ (by omega))))
          go_wp2
          go_ret
          exact ⟨ret_bool H.out.symm, (by repeat' (first | (with_reducible exact Below.refl _ _) | (with_reducible assumption) | (with_reducible refine below_drewN ?_ _) | (with_reducible refine Below.drew ?_) | (with_reducible refine Below.alloc ?_ ?_ _) | (with_reducible refine Below.setCell ?_ ?_ _) | go_size))⟩
      · have H := Lib.hid (show validB y m d h mi s = false from by unfold validB; simp; omega)
        go_enter Try.func87, Try.ntmps87
        go_wp2
        go_quiet (first | (go_at_call 140; exact Kit.quiet_same (refdays_any _ _ _)) | (go_at_call 139; exact Kit.quiet_same (in_true _ _ _ _ (by omega))) | (go_at_call 139; exact Kit.quiet_same (in_false _ _ _ _ (by omega))))
        go_wp2
        go_ret
        exact ⟨ret_bool H.out.symm, (by repeat' (first | (with_reducible exact Below.refl _ _) | (with_reducible assumption) | (with_reducible refine below_drewN ?_ _) | (with_reducible refine Below.drew ?_) | (with_reducible refine Below.alloc ?_ ?_ _) | (with_reducible refine Below.setCell ?_ ?_ _) | go_size))⟩
    · have H := Lib.hid (show validB y m d h mi s = false from by unfold validB; simp; omega)
      go_enter Try.func87, Try.ntmps87
      go_wp2
      go_quiet (first | (go_at_call 140; exact Kit.quiet_same (refdays_any _ _ _)) | (go_at_call 139; exact Kit.quiet_same (in_true _ _ _ _ (by omega))) | (go_at_call 139; exact Kit.quiet_same (in_false _ _ _ _ (by omega))))
      go_wp2
      go_ret
      exact ⟨ret_bool H.out.symm, (by repeat' (first | (with_reducible exact Below.refl _ _) | (with_reducible assumption) | (with_reducible refine below_drewN ?_ _) | (with_reducible refine Below.drew ?_) | (with_reducible refine Below.alloc ?_ ?_ _) | (with_reducible refine Below.setCell ?_ ?_ _) | go_size))⟩
  · have H := Lib.hid (show validB y m d h mi s = false from by unfold validB; simp; omega)
    go_enter Try.func87, Try.ntmps87
    go_wp2
    go_quiet (first | (go_at_call 140; exact Kit.quiet_same (refdays_any _ _ _)) | (go_at_call 139; exact Kit.quiet_same (in_true _ _ _ _ (by omega))) | (go_at_call 139; exact Kit.quiet_same (in_false _ _ _ _ (by omega))))
    go_wp2
    go_ret
    exact ⟨ret_bool H.out.symm, (by repeat' (first | (with_reducible exact Below.refl _ _) | (with_reducible assumption) | (with_reducible refine below_drewN ?_ _) | (with_reducible refine Below.drew ?_) | (with_reducible refine Below.alloc ?_ ?_ _) | (with_reducible refine Below.setCell ?_ ?_ _) | go_size))⟩
end Go.Proofs.Ytnpmgofkfdpbjaa.Clk
/- Walks: the clock's encodings, in the package and in the reference. -/
namespace Go.Proofs.Ytnpmgofkfdpbjaa.Clk
open Go.RowKit Kit

set_option maxHeartbeats 1000000 in
theorem two_any {A : Option Addr} {n c : Nat} {l : List UInt8} (v : Int) (w : World) {base : Nat} (h0 : 0 ≤ v) (h1 : v ≤ 99) (ho : Own w base A n c l) (hb : base ≤ w.heap.size) (hn : n ≤ 1000000) :
    Calls Try.prog 132 #[.slice A n c, .int .i64 v] w fun e w' => ∃ A' c', e = .returned (.slice A' (n + 2) c') ∧ Own w' base A' (n + 2) c' (l ++ dig v) ∧ w.grownBy w' (Value.slice A n c).ownBlock ∧ Below base w w' := by
  go_enter Try.func132, Try.ntmps132
  go_wp2_with (first | (at_builtin; refine appL [48 + v / 10, 48 + v % 10] rfl (.tmp 5) (.tmp 14) rfl rfl ho rfl (in2 (by omega) (by omega) (by omega) (by omega)) (by simp; omega) hb ?_; intro A' c' w2 ho' hg' hb' hs'))
  go_ret
  exact ⟨A', c', rfl, ho', grown_trans (grown_alloc (World.grownBy.refl _ _) _) hg', hb'⟩

set_option maxHeartbeats 1000000 in
theorem tail_any {A : Option Addr} {n c : Nat} {l : List UInt8} (y m d h mi s : Int) (w : World) {base : Nat} (hv : 0 ≤ m ∧ m ≤ 99 ∧ 0 ≤ d ∧ d ≤ 99 ∧ 0 ≤ h ∧ h ≤ 99 ∧ 0 ≤ mi ∧ mi ≤ 99 ∧ 0 ≤ s ∧ s ≤ 99) (ho : Own w base A n c l) (hb : base ≤ w.heap.size) (hn : n ≤ 1000) :
    Calls Try.prog 131 #[.slice A n c, time y m d h mi s] w fun e w' => ∃ A' c', e = .returned (.slice A' (n + 11) c') ∧ Own w' base A' (n + 11) c' (l ++ tailL m d h mi s) ∧ Below base w w' := by
  have hf : ∀ k, k < 5 → 0 ≤ [m, d, h, mi, s].getD k 0 ∧ [m, d, h, mi, s].getD k 0 ≤ 99 := by
    intro k hk
    have hk' : k = 0 ∨ k = 1 ∨ k = 2 ∨ k = 3 ∨ k = 4 := by omega
    rcases hk' with rfl | rfl | rfl | rfl | rfl <;> simp <;> omega
  have HF := Lib.hid hf
  clear hf hv
  go_enter Try.func131, Try.ntmps131
  go_wp2
  go_loopw [0, 19] (fun o i wr => ∃ (k : Nat) (A' : Option Addr) (c' : Nat), i = .int .i64 (k : Int) ∧ k ≤ 5 ∧ o = .slice A' (n + 2 * k) c' ∧ Own wr base A' (n + 2 * k) c' (l ++ digs ([m, d, h, mi, s].take k)) ∧ Below base w wr ∧
      wr.heap[w.heap.size + 1]? = some (.cells #[.int .i64 m, .int .i64 d, .int .i64 h, .int .i64 mi, .int .i64 s] 3 (0, 0))) (fun _ i _ => 5 - (intOf i).toNat)
  case atStart =>
    refine ⟨0, A, c, rfl, by omega, rfl, ?_, (by repeat' (first | (with_reducible exact Below.refl _ _) | (with_reducible assumption) | (with_reducible refine below_drewN ?_ _) | (with_reducible refine Below.drew ?_) | (with_reducible refine Below.alloc ?_ ?_ _) | (with_reducible refine Below.setCell ?_ ?_ _) | go_size)), ?_⟩
    · simpa [digs] using (ho.alloc _).alloc _
    · have := heap_alloc_new (w.alloc (Obj.cells #[Value.int IntKind.i64 y, Value.int IntKind.i64 m, Value.int IntKind.i64 d, Value.int IntKind.i64 h, Value.int IntKind.i64 mi, Value.int IntKind.i64 s] 28)) (Obj.cells #[.int .i64 m, .int .i64 d, .int .i64 h, .int .i64 mi, .int .i64 s] 3)
      simpa using this
  case round =>
    obtain ⟨k, A', c', rfl, hk, rfl, hor, hbr, hbk⟩ := hrel
    by_cases hlt : k < 5
    · obtain ⟨v, hvk⟩ : ∃ v, [m, d, h, mi, s].getD k 0 = v := ⟨_, rfl⟩
      have hcell : wr.cell? ⟨w.heap.size + 1, k, none⟩ = some (.int .i64 v) := by
        rw [cell_of_row wr _ k _ _ _ hbk, ← hvk]
        have hk' : k = 0 ∨ k = 1 ∨ k = 2 ∨ k = 3 ∨ k = 4 := by omega
        rcases hk' with rfl | rfl | rfl | rfl | rfl <;> rfl
      have hv := HF.out k hlt
      rw [hvk] at hv
      obtain ⟨v0, v1⟩ := hv
      have DM := Lib.hid (digs_more (fs := [m, d, h, mi, s]) (k := k) hlt)
      have HV := Lib.hid hvk
      have zr := hbr.size
      clear hvk
      go_wp2_with (first | (go_at_call 132; refine (two_any v _ v0 v1 hor (by omega) (by omega)).mono ?_; rintro e w2 ⟨A2, c2, rfl, ho2, hg2, hb2⟩))
      go_roundw
      case rel =>
        refine ⟨k + 1, A2, c2, by go_num, by omega, by rw [show n + 2 * (k + 1) = n + 2 * k + 2 from by omega], ?_, hbr.trans hb2, ?_⟩
        · rw [show n + 2 * (k + 1) = n + 2 * k + 2 from by omega, DM.out, HV.out, ← List.append_assoc]; exact ho2
        · exact (hg2.block _ (Blk_lt hbk) (fun e => own_ne hor hbk (by decide) e.symm)).trans hbk
      case measure => simp [intOf]; omega
    · obtain rfl : k = 5 := by omega
      have zr := hbr.size
      go_wp2_with (first | (at_builtin; refine appL [90] rfl (.tmp 27) (.tmp 28) rfl rfl hor rfl (in1 (by omega) (by omega)) (by simp; omega) (by omega) ?_; intro A2 c2 w2 ho' hg' hb' hs'))
      go_ret
      have e : l ++ digs (List.take 5 [m, d, h, mi, s]) ++ List.map ofI [90] = l ++ tailL m d h mi s := by rw [tail_digs, ← List.append_assoc]; rfl
      rw [e] at ho'
      exact ⟨A2, c2, rfl, ho', hbr.trans hb'⟩

/-- block b holds a point in time -/
def TimeB (w : World) (b : Nat) (y m d h mi s : Int) : Prop := w.heap[b]? = some (.cells #[.int .i64 y, .int .i64 m, .int .i64 d, .int .i64 h, .int .i64 mi, .int .i64 s] 28 (0, 0))
section
variable {w w' : World} {b : Nat} {y m d h mi s : Int}
theorem TimeB.lt (t : TimeB w b y m d h mi s) : b < w.heap.size := Blk_lt t
theorem TimeB.cells (t : TimeB w b y m d h mi s) : w.cell? ⟨b, 0, none⟩ = some (.int .i64 y) ∧ w.cell? ⟨b, 1, none⟩ = some (.int .i64 m) ∧ w.cell? ⟨b, 2, none⟩ = some (.int .i64 d) ∧ w.cell? ⟨b, 3, none⟩ = some (.int .i64 h) ∧
    w.cell? ⟨b, 4, none⟩ = some (.int .i64 mi) ∧ w.cell? ⟨b, 5, none⟩ = some (.int .i64 s) := by
  refine ⟨?_, ?_, ?_, ?_, ?_, ?_⟩ <;> (rw [cell_of_row w b _ _ _ _ t]; rfl)
theorem TimeB.frozen (t : TimeB w b y m d h mi s) (k : Nat) : w.frozen? ⟨b, k, none⟩ = false := frozen_of_row w b k _ _ t
theorem TimeB.past (t : TimeB w b y m d h mi s) (hb : Below w.heap.size w w') : TimeB w' b y m d h mi s := (hb.block b t.lt).trans t
theorem TimeB.below {B : Nat} (t : TimeB w b y m d h mi s) (hb : Below B w w') (hB : b < B) : TimeB w' b y m d h mi s := (hb.block b hB).trans t
theorem TimeB.alloc (t : TimeB w b y m d h mi s) (o : Obj) : TimeB (w.alloc o) b y m d h mi s := (Below.heap_alloc w o b t.lt).trans t
theorem TimeB.drewN (t : TimeB w b y m d h mi s) (k : Nat) : TimeB (w.drewN k) b y m d h mi s := t
theorem TimeB.drew (t : TimeB w b y m d h mi s) : TimeB w.drew b y m d h mi s := t
end

set_option maxHeartbeats 2000000 in
theorem encUTC_any (y m d h mi s : Int) (w : World) :
    Calls Try.prog 80 #[time y m d h mi s] w fun e w' => ∃ A n c, e = .returned (.tuple #[.slice A n c, .int .i64 (utcCode y m d h mi s)]) ∧ Own w' w.heap.size A n c (utcBytes y m d h mi s) ∧ Below w.heap.size w w' := by
  cases hv : validB y m d h mi s
  · have C := Lib.hid (show utcCode y m d h mi s = 8 from by unfold utcCode; rw [hv]; simp)
    have B := Lib.hid (show utcBytes y m d h mi s = [] from by unfold utcBytes; rw [C.out]; simp)
    have HV := Lib.hid hv
    clear hv
    go_enter Try.func80, Try.ntmps80
    go_wp2_with (first | (go_at_call 86; refine (valid_any _ _ _ _ _ _ _).mono ?_; rw [HV.out]; rintro e w1 ⟨rfl, hb1⟩))
    go_ret2
    exact ⟨none, 0, 0, ret2 rfl (vint C.out.symm), by rw [B.out]; exact Own.none_ _ _, bel1 hb1⟩
  · have bd := valid_bd hv
    have HV := Lib.hid hv
    by_cases hy : y < 1950 ∨ 2049 < y
    · have C := Lib.hid (show utcCode y m d h mi s = 9 from by unfold utcCode; rw [if_pos hv, if_pos hy])
      have B := Lib.hid (show utcBytes y m d h mi s = [] from by unfold utcBytes; rw [C.out]; simp)
      clear hv
      have HY := Lib.hid hy
      by_cases hy1 : y < 1950
      · clear hy
        go_enter Try.func80, Try.ntmps80
        go_wp2_with (first | (go_at_call 86; refine (valid_any _ _ _ _ _ _ _).mono ?_; rw [HV.out]; rintro e w1 ⟨rfl, hb1⟩; obtain ⟨q0, q1, q2, q3, q4, q5⟩ := TimeB.cells (blk1 hb1)))
        go_ret2
        exact ⟨none, 0, 0, ret2 rfl (vint C.out.symm), by rw [B.out]; exact Own.none_ _ _, bel1 hb1⟩
      · have hy2 : 2049 < y := by omega
        clear hy
        go_enter Try.func80, Try.ntmps80
        go_wp2_with (first | (go_at_call 86; refine (valid_any _ _ _ _ _ _ _).mono ?_; rw [HV.out]; rintro e w1 ⟨rfl, hb1⟩; obtain ⟨q0, q1, q2, q3, q4, q5⟩ := TimeB.cells (blk1 hb1)))
        go_ret2
        exact ⟨none, 0, 0, ret2 rfl (vint C.out.symm), by rw [B.out]; exact Own.none_ _ _, bel1 hb1⟩
    · have C := Lib.hid (show utcCode y m d h mi s = 0 from by unfold utcCode; rw [if_pos hv, if_neg hy])
      have B := Lib.hid (show utcBytes y m d h mi s = utcL y m d h mi s from by unfold utcBytes; rw [if_pos C.out])
      have hy1 : ¬ y < 1950 := by omega
      have hy2 : ¬ 2049 < y := by omega
      clear hv hy
      go_enter Try.func80, Try.ntmps80
      go_wp2_with (first | (go_at_call 86; refine (valid_any _ _ _ _ _ _ _).mono ?_; rw [HV.out]; rintro e w1 ⟨rfl, hb1⟩; have tb := blk1 hb1; obtain ⟨q0, q1, q2, q3, q4, q5⟩ := TimeB.cells tb))
      have hm : y.tmod 100 = y % 100 := Int.tmod_eq_emod_of_nonneg bd.1
      go_region_with (first | (go_at_call 132; refine (two_any (base := w1.heap.size) (l := []) (y % 100) _ (by omega) (by omega) (Own.none_ _ _) (by simp) (by omega)).mono ?_; rintro e w2 ⟨A2, c2, rfl, ho2, hg2, hb2⟩; have tb2 := TimeB.below (TimeB.drew tb) hb2 (TimeB.lt tb); obtain ⟨p0, p1, p2, p3, p4, p5⟩ := TimeB.cells tb2) | (go_at_call 131; refine (tail_any _ _ _ _ _ _ _ (by omega) ho2 hb2.size (by omega)).mono ?_; rintro e w3 ⟨A3, c3, rfl, ho3, hb3⟩))
      all_goals
        go_wp2
        go_ret2
        have hz1 := (bel1 hb1).size
        refine ⟨A3, _, c3, ret2 rfl (vint C.out.symm), by rw [B.out]; exact ho3.mono (by omega), ?_⟩
        exact ((bel1 hb1).drew).trans ((hb2.mono hz1).trans (hb3.mono hz1))

set_option maxHeartbeats 2000000 in
theorem encGen_any (y m d h mi s : Int) (w : World) :
    Calls Try.prog 81 #[time y m d h mi s] w fun e w' => ∃ A n c, e = .returned (.tuple #[.slice A n c, .int .i64 (genCode y m d h mi s)]) ∧ Own w' w.heap.size A n c (genBytes y m d h mi s) ∧ Below w.heap.size w w' := by
  cases hv : validB y m d h mi s
  · have C := Lib.hid (show genCode y m d h mi s = 8 from by unfold genCode; rw [hv]; simp)
    have B := Lib.hid (show genBytes y m d h mi s = [] from by unfold genBytes; rw [C.out]; simp)
    have HV := Lib.hid hv
    clear hv
    go_enter Try.func81, Try.ntmps81
    go_wp2_with (first | (go_at_call 86; refine (valid_any _ _ _ _ _ _ _).mono ?_; rw [HV.out]; rintro e w1 ⟨rfl, hb1⟩))
    go_ret2
    exact ⟨none, 0, 0, ret2 rfl (vint C.out.symm), by rw [B.out]; exact Own.none_ _ _, bel1 hb1⟩
  · have bd := valid_bd hv
    have HV := Lib.hid hv
    have C := Lib.hid (show genCode y m d h mi s = 0 from by unfold genCode; rw [if_pos hv])
    have B := Lib.hid (show genBytes y m d h mi s = genL y m d h mi s from by unfold genBytes; rw [if_pos C.out])
    clear hv
    go_enter Try.func81, Try.ntmps81
    go_wp2_with (first | (go_at_call 86; refine (valid_any _ _ _ _ _ _ _).mono ?_; rw [HV.out]; rintro e w1 ⟨rfl, hb1⟩; have tb := blk1 hb1; obtain ⟨q0, q1, q2, q3, q4, q5⟩ := TimeB.cells tb))
    have hm : y.tmod 100 = y % 100 := Int.tmod_eq_emod_of_nonneg bd.1
    have hd : IntKind.i64.wrap (y.tdiv 100) = y / 100 := by rw [Int.tdiv_eq_ediv_of_nonneg bd.1]; exact IntWalk.i64_in _ (by omega)
    go_region_with (first | (go_at_call 132; ((with_reducible refine (two_any (base := w1.heap.size) (l := []) (y / 100) _ (by omega) (by omega) (Own.none_ _ _) (by simp) (by omega)).mono ?_); rintro e w2 ⟨A2, c2, rfl, ho2, hg2, hb2⟩); have ho2' : Own w2 w1.heap.size A2 2 c2 (dig (y / 100)) := ho2; have hz2 : w1.heap.size ≤ w2.heap.size := hb2.size; have tb2 := TimeB.below (TimeB.drew tb) hb2 (TimeB.lt tb); obtain ⟨p0, p1, p2, p3, p4, p5⟩ := TimeB.cells tb2) | (go_at_call 132; ((with_reducible refine (two_any (base := w1.heap.size) (y % 100) _ (by omega) (by omega) ho2' hz2 (by omega)).mono ?_); rintro e w3 ⟨A3, c3, rfl, ho3, hg3, hb3⟩); have tb3 := TimeB.below tb2 hb3 (TimeB.lt tb); have hz3 : w1.heap.size ≤ w3.heap.size := Nat.le_trans hz2 hb3.size; obtain ⟨r0, r1, r2, r3, r4, r5⟩ := TimeB.cells tb3) | (go_at_call 131; refine (tail_any _ _ _ _ _ _ _ (by omega) ho3 hz3 (by omega)).mono ?_; rintro e w4 ⟨A4, c4, rfl, ho4, hb4⟩))
    all_goals
      go_wp2
      go_ret2
      have hz1 := (bel1 hb1).size
      refine ⟨A4, _, c4, ret2 rfl (vint C.out.symm), by rw [B.out]; exact ho4.mono (by omega), ?_⟩
      exact ((bel1 hb1).drew).trans ((hb2.mono hz1).trans ((hb3.mono hz1).trans (hb4.mono hz1)))
end Go.Proofs.Ytnpmgofkfdpbjaa.Clk
/- What an argument gives: a struct of six numbers by value. -/
namespace Go.Proofs.Ytnpmgofkfdpbjaa.Opn
open Go.Joins Go.ChangeShapes Go.WideShapes Go.ChangeAt Go.RowKit Go.Deep

theorem num_arg {H : Type} {enc : TypeId × Value → H} {P : Program} {w : World} {base : Nat} {spare : Nat → Bool} {held : Bool} {n : Nat} {t : TypeId} {v : Value} {y : DataW H × List MemPlace}
    (ht : P.underlying t = some (.int .i64)) (h : DataW.trod enc P w base spare held n t [v] = some y) : ∃ x, v = .int .i64 x ∧ -9223372036854775808 ≤ x ∧ x ≤ 9223372036854775807 := by
  obtain ⟨x, hv, _, hw⟩ := DataW.trod_int ht h
  simp only [List.cons.injEq, and_true] at hv
  exact ⟨x, hv, bounds_i64 hw⟩

theorem agg6_arg {H : Type} {enc : TypeId × Value → H} {P : Program} {w : World} {base : Nat} {spare : Nat → Bool} {held : Bool} {r : Reach} {b0 : Nat} {t : TypeId} {f0 f1 f2 f3 f4 f5 : Field} {v : Value} {d : DataW H} {p : List MemPlace}
    (hs : P.underlying t = some (.struct #[f0, f1, f2, f3, f4, f5])) (hone : oneCellFields P #[f0, f1, f2, f3, f4, f5] = true) (hC : P.cellsOf t = 6)
    (t0 : P.underlying f0.type = some (.int .i64)) (t1 : P.underlying f1.type = some (.int .i64)) (t2 : P.underlying f2.type = some (.int .i64)) (t3 : P.underlying f3.type = some (.int .i64)) (t4 : P.underlying f4.type = some (.int .i64)) (t5 : P.underlying f5.type = some (.int .i64))
    (hv : Value.okWide P w r b0 t v) (h : DataW.Trod enc P w base spare held t v d p) :
    ∃ x0 x1 x2 x3 x4 x5, v = Clk.time x0 x1 x2 x3 x4 x5 ∧ (-9223372036854775808 ≤ x0 ∧ x0 ≤ 9223372036854775807) ∧ (-9223372036854775808 ≤ x1 ∧ x1 ≤ 9223372036854775807) ∧ (-9223372036854775808 ≤ x2 ∧ x2 ≤ 9223372036854775807) ∧
      (-9223372036854775808 ≤ x3 ∧ x3 ≤ 9223372036854775807) ∧ (-9223372036854775808 ≤ x4 ∧ x4 ≤ 9223372036854775807) ∧ (-9223372036854775808 ≤ x5 ∧ x5 ≤ 9223372036854775807) := by
  obtain ⟨cs, rfl, hsz⟩ := okWide_struct hs hv
  obtain ⟨l⟩ := cs
  match l, hsz.trans hC with
  | [c0, c1, c2, c3, c4, c5], _ =>
    obtain ⟨fuel, hf⟩ := h
    obtain ⟨xs, n, _, hx, _, hlen, hg⟩ := DataW.trod_struct hs hf
    obtain ⟨o0, k0⟩ := hone_of hone 0 f0 rfl
    obtain ⟨o1, k1⟩ := hone_of hone 1 f1 rfl
    obtain ⟨o2, k2⟩ := hone_of hone 2 f2 rfl
    obtain ⟨o3, k3⟩ := hone_of hone 3 f3 rfl
    obtain ⟨o4, k4⟩ := hone_of hone 4 f4 rfl
    obtain ⟨o5, k5⟩ := hone_of hone 5 f5 rfl
    match xs, hlen with
    | [y0, y1, y2, y3, y4, y5], _ =>
      obtain ⟨x0, rfl, h0⟩ := num_arg (enc := enc) (w := w) (base := base) (spare := spare) (held := held) (n := n) (v := c0) (y := y0) t0 (by simpa [Value.cells, o0, k0] using hg 0 f0 rfl)
      obtain ⟨x1, rfl, h1⟩ := num_arg (enc := enc) (w := w) (base := base) (spare := spare) (held := held) (n := n) (v := c1) (y := y1) t1 (by simpa [Value.cells, o1, k1] using hg 1 f1 rfl)
      obtain ⟨x2, rfl, h2⟩ := num_arg (enc := enc) (w := w) (base := base) (spare := spare) (held := held) (n := n) (v := c2) (y := y2) t2 (by simpa [Value.cells, o2, k2] using hg 2 f2 rfl)
      obtain ⟨x3, rfl, h3⟩ := num_arg (enc := enc) (w := w) (base := base) (spare := spare) (held := held) (n := n) (v := c3) (y := y3) t3 (by simpa [Value.cells, o3, k3] using hg 3 f3 rfl)
      obtain ⟨x4, rfl, h4⟩ := num_arg (enc := enc) (w := w) (base := base) (spare := spare) (held := held) (n := n) (v := c4) (y := y4) t4 (by simpa [Value.cells, o4, k4] using hg 4 f4 rfl)
      obtain ⟨x5, rfl, h5⟩ := num_arg (enc := enc) (w := w) (base := base) (spare := spare) (held := held) (n := n) (v := c5) (y := y5) t5 (by simpa [Value.cells, o5, k5] using hg 5 f5 rfl)
      exact ⟨x0, x1, x2, x3, x4, x5, rfl, h0, h1, h2, h3, h4, h5⟩

set_option maxRecDepth 100000 in
theorem time_arg {H : Type} {enc : TypeId × Value → H} {w : World} {base : Nat} {spare : Nat → Bool} {held : Bool} {r : Reach} {b0 : Nat} {v : Value} {d : DataW H} {p : List MemPlace}
    (hv : Value.okWide Try.prog w r b0 28 v) (h : DataW.Trod enc Try.prog w base spare held 28 v d p) :
    ∃ x0 x1 x2 x3 x4 x5, v = Clk.time x0 x1 x2 x3 x4 x5 ∧ (-9223372036854775808 ≤ x0 ∧ x0 ≤ 9223372036854775807) ∧ (-9223372036854775808 ≤ x1 ∧ x1 ≤ 9223372036854775807) ∧ (-9223372036854775808 ≤ x2 ∧ x2 ≤ 9223372036854775807) ∧
      (-9223372036854775808 ≤ x3 ∧ x3 ≤ 9223372036854775807) ∧ (-9223372036854775808 ≤ x4 ∧ x4 ≤ 9223372036854775807) ∧ (-9223372036854775808 ≤ x5 ∧ x5 ≤ 9223372036854775807) :=
  agg6_arg Try.underlying28 (by kernel_rfl) (by kernel_rfl) Try.underlying3 Try.underlying3 Try.underlying3 Try.underlying3 Try.underlying3 Try.underlying3 hv h
end Go.Proofs.Ytnpmgofkfdpbjaa.Opn
