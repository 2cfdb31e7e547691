/- Walks: days before a year, the clock's and the reference's seconds. -/
import Derived.Test.YtkkgcfllfhkoaaaPlClkE
import Derived.Test.YtkkgcfllfhkoaaaClkD
import Derived.Deep.CutRange
set_option linter.unusedSimpArgs false
set_option linter.unusedVariables false
namespace Go.Proofs.Ytkkgcfllfhkoaaa.Clk
open Go.RowKit Kit

set_option maxHeartbeats 400000 in
theorem before_any (y : Int) (w : World) (h0 : 0 ≤ y) (h1 : y ≤ 20000) :
    Calls Try.prog 64 #[.int .i64 y] w fun e w' => e = .returned (.int .i64 (bef y)) ∧ w = w' := by
  by_cases hy : y = 0
  · subst hy
    go_enter Try.func64, Try.ntmps64
    go_wp2
    go_ret
    exact ⟨rfl, rfl⟩
  · have H := Lib.hid (bef_pos hy)
    have w1 : IntKind.i64.wrap (365 * y) = 365 * y := IntWalk.i64_in _ (by omega)
    have w2 : IntKind.i64.wrap (y - 1) = y - 1 := IntWalk.i64_in _ (by omega)
    have d1 : (y - 1).tdiv 4 = (y - 1) / 4 := Int.tdiv_eq_ediv_of_nonneg (by omega)
    have d2 : (y - 1).tdiv 100 = (y - 1) / 100 := Int.tdiv_eq_ediv_of_nonneg (by omega)
    have d3 : (y - 1).tdiv 400 = (y - 1) / 400 := Int.tdiv_eq_ediv_of_nonneg (by omega)
    go_enter Try.func64, Try.ntmps64
    go_wp2
    go_ret
    exact ⟨ret_int H.out.symm, rfl⟩

/-- the cells of a boxed point in time, behind later calls -/
theorem box6 {w w1 : World} {x0 x1 x2 x3 x4 x5 : Value} {t : TypeId} (hb : Below (w.alloc (.cells #[x0, x1, x2, x3, x4, x5] t)).heap.size (w.alloc (.cells #[x0, x1, x2, x3, x4, x5] t)) w1) :
    (w1.cell? ⟨w.heap.size, 0, none⟩ = some x0 ∧ w1.cell? ⟨w.heap.size, 1, none⟩ = some x1 ∧ w1.cell? ⟨w.heap.size, 2, none⟩ = some x2 ∧ w1.cell? ⟨w.heap.size, 3, none⟩ = some x3 ∧ w1.cell? ⟨w.heap.size, 4, none⟩ = some x4 ∧ w1.cell? ⟨w.heap.size, 5, none⟩ = some x5) ∧
      Below w.heap.size w w1 := ⟨cells6 (blk1 hb), bel1 hb⟩

set_option maxHeartbeats 1000000 in
theorem secs_bad {y m d h mi s : Int} (w : World) (hv : validB y m d h mi s = false) :
    Calls Try.prog 44 #[time y m d h mi s] w fun e w' => e = .returned (.tuple #[.int .i64 0, .int .i64 8]) ∧ Below w.heap.size w w' := by
  have HV := Lib.hid hv
  clear hv
  go_enter Try.func44, Try.ntmps44
  go_wp2_with (first | (go_at_call 16; refine (valid_any _ _ _ _ _ _ _).mono ?_; rw [HV.out]; rintro e w1 ⟨rfl, hb1⟩))
  go_ret2
  exact ⟨rfl, bel1 hb1⟩

set_option maxHeartbeats 2000000 in
theorem secs_ok {y m d h mi s : Int} (w : World) (hv : validB y m d h mi s = true) :
    Calls Try.prog 44 #[time y m d h mi s] w fun e w' => e = .returned (.tuple #[.int .i64 (secs y m d h mi s), .int .i64 0]) ∧ Below w.heap.size w w' := by
  obtain ⟨a1, a2, a3, a4, a5, a6, a7, a8, a9, a10, a11, a12, a13⟩ := valid_lim hv
  have HV := Lib.hid hv
  have HB := Lib.hid (ms_bd y (m := m) a3)
  have hbn := bef_nonneg a1
  have hbx := bef_le_366 a1
  have HS := Lib.hid (show secs y m d h mi s = (bef y + ms y m + d - 1 - 719528) * 86400 + (h * 3600 + mi * 60 + s) from rfl)
  have HM := Lib.hid (fun k (h1 : 1 ≤ k) => ms_bd y (m := k) h1)
  have HN := Lib.hid (fun k (h1 : 1 ≤ k) => ms_succ y (m := k) h1)
  have HY := Lib.hid (fun k => days_bd y k)
  clear hv
  go_enter Try.func44, Try.ntmps44
  go_upto_region 3 with (first | (go_at_call 16; refine (valid_any _ _ _ _ _ _ _).mono ?_; rw [HV.out]; rintro e w1 ⟨rfl, hb1⟩))
  obtain ⟨⟨q0, q1, q2, q3, q4, q5⟩, hb2⟩ := box6 hb1
  clear hb1
  go_quiet ((go_at_call 64; exact Kit.quiet_same (before_any _ _ (by omega) (by omega))))
  go_wp2
  go_loopw [4, 5] (fun a i wr => ∃ (k : Int) (n : Nat), 1 ≤ k ∧ k ≤ m ∧ i = .int .i64 k ∧ a = .int .i64 (bef y + d - 1 - 719528 + ms y k) ∧ wr = w1.drewN n) (fun _ i _ => 20 - (intOf i).toNat)
  case atStart => exact ⟨1, _, by omega, by omega, rfl, by rw [ms_one]; simp, rfl⟩
  case round =>
    obtain ⟨k, n, hk1, hk2, rfl, rfl, rfl⟩ := hrel
    have hm1 := HM.out k hk1
    have hdb := HY.out k
    have hst := Lib.hid (HN.out k hk1)
    generalize hv : ms y k = v at *
    have HVV := Lib.hid hv
    clear hv
    generalize hbb : bef y = b at *
    by_cases hlt : k < m
    · generalize hz : days y k = z at *
      have HZ := Lib.hid hz
      clear hz
      go_wp2_with (go_at_call 14; refine (days_any _ _ _).mono ?_; rw [HZ.out]; rintro e w' ⟨rfl, rfl⟩)
      go_roundw
      case rel => exact ⟨k + 1, _, by omega, by omega, rfl, by rw [hst.out]; simp only [Int.add_assoc], rfl⟩
      case measure => simp [intOf]; omega
    · obtain rfl : k = m := by omega
      go_wp2
      go_ret2
      refine ⟨ret2 (vint ?_) rfl, (by repeat' (first | (with_reducible exact Below.refl _ _) | (with_reducible assumption) | (with_reducible refine below_drewN ?_ _) | (with_reducible refine Below.drew ?_) | (with_reducible refine Below.alloc ?_ ?_ _) | (with_reducible refine Below.setCell ?_ ?_ _) | go_size))⟩
      rw [HS.out]
      have := HVV.out
      omega

set_option maxHeartbeats 1000000 in
theorem refsecs_bad {y m d h mi s : Int} (w : World) (hv : validB y m d h mi s = false) :
    Calls Try.prog 45 #[time y m d h mi s] w fun e w' => e = .returned (.tuple #[.int .i64 0, .int .i64 8]) ∧ Below w.heap.size w w' := by
  have HV := Lib.hid hv
  clear hv
  go_enter Try.func45, Try.ntmps45
  go_wp2_with (first | (go_at_call 22; refine (refvalid_any _ _ _ _ _ _ _).mono ?_; rw [HV.out]; rintro e w1 ⟨rfl, hb1⟩))
  go_ret2
  exact ⟨rfl, bel1 hb1⟩

set_option maxHeartbeats 2000000 in
theorem refsecs_ok {y m d h mi s : Int} (w : World) (hv : validB y m d h mi s = true) :
    Calls Try.prog 45 #[time y m d h mi s] w fun e w' => e = .returned (.tuple #[.int .i64 (secs y m d h mi s), .int .i64 0]) ∧ Below w.heap.size w w' := by
  obtain ⟨a1, a2, a3, a4, a5, a6, a7, a8, a9, a10, a11, a12, a13⟩ := valid_lim hv
  have HV := Lib.hid hv
  have hd := ref_day (d := d) a1 a2 a3 a4
  clear hv
  by_cases hm : m - 3 < 0
  · rw [if_pos hm] at hd
    have HS := Lib.hid (show secs y m d h mi s = (365 * (y - 1 + 400) + (y - 1 + 400) / 4 - (y - 1 + 400) / 100 + (y - 1 + 400) / 400 + (153 * (m - 3 + 12) + 2) / 5 + d - 1 - 146097 - 719468) * 86400 + (h * 3600 + mi * 60 + s) from by rw [← hd]; rfl)
    clear hd
    have d1 : (y - 1 + 400).tdiv 4 = (y - 1 + 400) / 4 := Int.tdiv_eq_ediv_of_nonneg (by omega)
    have d2 : (y - 1 + 400).tdiv 100 = (y - 1 + 400) / 100 := Int.tdiv_eq_ediv_of_nonneg (by omega)
    have d3 : (y - 1 + 400).tdiv 400 = (y - 1 + 400) / 400 := Int.tdiv_eq_ediv_of_nonneg (by omega)
    have d4 : (153 * (m - 3 + 12) + 2).tdiv 5 = (153 * (m - 3 + 12) + 2) / 5 := Int.tdiv_eq_ediv_of_nonneg (by omega)
    go_enter Try.func45, Try.ntmps45
    go_upto_region 3 with (first | (go_at_call 22; refine (refvalid_any _ _ _ _ _ _ _).mono ?_; rw [HV.out]; rintro e w1 ⟨rfl, hb1⟩))
    obtain ⟨⟨q0, q1, q2, q3, q4, q5⟩, hb2⟩ := box6 hb1
    clear hb1
    go_wp2
    go_ret2
    exact ⟨ret2 (vint HS.out.symm) rfl, (by repeat' (first | (with_reducible exact Below.refl _ _) | (with_reducible assumption) | (with_reducible refine below_drewN ?_ _) | (with_reducible refine Below.drew ?_) | (with_reducible refine Below.alloc ?_ ?_ _) | (with_reducible refine Below.setCell ?_ ?_ _) | go_size))⟩
  · rw [if_neg hm] at hd
    have HS := Lib.hid (show secs y m d h mi s = (365 * (y + 400) + (y + 400) / 4 - (y + 400) / 100 + (y + 400) / 400 + (153 * (m - 3) + 2) / 5 + d - 1 - 146097 - 719468) * 86400 + (h * 3600 + mi * 60 + s) from by rw [← hd]; rfl)
    clear hd
    have d1 : (y + 400).tdiv 4 = (y + 400) / 4 := Int.tdiv_eq_ediv_of_nonneg (by omega)
    have d2 : (y + 400).tdiv 100 = (y + 400) / 100 := Int.tdiv_eq_ediv_of_nonneg (by omega)
    have d3 : (y + 400).tdiv 400 = (y + 400) / 400 := Int.tdiv_eq_ediv_of_nonneg (by omega)
    have d4 : (153 * (m - 3) + 2).tdiv 5 = (153 * (m - 3) + 2) / 5 := Int.tdiv_eq_ediv_of_nonneg (by omega)
    go_enter Try.func45, Try.ntmps45
    go_upto_region 3 with (first | (go_at_call 22; refine (refvalid_any _ _ _ _ _ _ _).mono ?_; rw [HV.out]; rintro e w1 ⟨rfl, hb1⟩))
    obtain ⟨⟨q0, q1, q2, q3, q4, q5⟩, hb2⟩ := box6 hb1
    clear hb1
    go_wp2
    go_ret2
    exact ⟨ret2 (vint HS.out.symm) rfl, (by repeat' (first | (with_reducible exact Below.refl _ _) | (with_reducible assumption) | (with_reducible refine below_drewN ?_ _) | (with_reducible refine Below.drew ?_) | (with_reducible refine Below.alloc ?_ ?_ _) | (with_reducible refine Below.setCell ?_ ?_ _) | go_size))⟩
end Go.Proofs.Ytkkgcfllfhkoaaa.Clk
