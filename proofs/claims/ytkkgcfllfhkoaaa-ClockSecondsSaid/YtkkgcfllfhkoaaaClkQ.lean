/- Walks: the reference's FromSeconds. -/
import Derived.Test.YtkkgcfllfhkoaaaClkP
set_option linter.unusedSimpArgs false
set_option linter.unusedVariables false
namespace Go.Proofs.Ytkkgcfllfhkoaaa.Clk
open Go.RowKit Kit

/-- the seconds of the first of January -/
theorem secs_year {y : Int} (h0 : 0 ≤ y) (h1 : y ≤ 9999) : validB y 1 1 0 0 0 = true ∧ secs y 1 1 0 0 0 = (bef y - 719528) * 86400 := by
  refine ⟨?_, ?_⟩
  · have := days_31 (m := 1) h0 h1 (by omega)
    rw [valid_iff]; omega
  · unfold secs dayNo; rw [ms_one]; omega
/-- the next day -/
theorem day_next {y m d : Int} (h0 : 0 ≤ y) (h1 : y ≤ 9999) (hm : 1 ≤ m) (hm' : m ≤ 12) (hd : 1 ≤ d) (hd' : d ≤ days y m) (hl : dayNo y m d + 1 < bef (y + 1)) :
    (d + 1 ≤ days y m → dayNo y m (d + 1) = dayNo y m d + 1) ∧ (days y m < d + 1 → m + 1 ≤ 12 ∧ dayNo y (m + 1) 1 = dayNo y m d + 1 ∧ 1 ≤ days y (m + 1)) := by
  refine ⟨fun _ => by unfold dayNo; omega, fun h => ?_⟩
  have hs := ms_succ y hm
  have ht := (ms_tab h0 h1).2.2.2.2.2.2.2.2.2.2.2.2
  have hb := bef_succ h0
  have hne : m ≠ 12 := by
    rintro rfl
    simp only [Int.reduceAdd] at hs
    unfold dayNo at hl
    omega
  refine ⟨by omega, by unfold dayNo; omega, ?_⟩
  have hmm : m = 1 ∨ m = 2 ∨ m = 3 ∨ m = 4 ∨ m = 5 ∨ m = 6 ∨ m = 7 ∨ m = 8 ∨ m = 9 ∨ m = 10 ∨ m = 11 := by omega
  rcases hmm with rfl | rfl | rfl | rfl | rfl | rfl | rfl | rfl | rfl | rfl | rfl <;> simp only [Int.reduceAdd]
  all_goals first
    | (rw [days_31 h0 h1 (by omega)]; omega)
    | (rw [days_30 h0 h1 (by omega)]; omega)
    | (rw [days_two h0 h1]; split <;> omega)

theorem ref_first (w : World) : Calls Try.prog 45 #[time 0 1 1 0 0 0] w fun e w' => e = .returned (.tuple #[.int .i64 (-62167219200), .int .i64 0]) ∧ Below w.heap.size w w' := by
  have := refsecs_ok (y := 0) (m := 1) (d := 1) (h := 0) (mi := 0) (s := 0) w (by decide)
  rwa [show secs 0 1 1 0 0 0 = -62167219200 from by decide] at this
theorem ref_last (w : World) : Calls Try.prog 45 #[time 9999 12 31 23 59 59] w fun e w' => e = .returned (.tuple #[.int .i64 253402300799, .int .i64 0]) ∧ Below w.heap.size w w' := by
  have := refsecs_ok (y := 9999) (m := 12) (d := 31) (h := 23) (mi := 59) (s := 59) w (by decide)
  rwa [show secs 9999 12 31 23 59 59 = 253402300799 from by decide] at this

set_option maxHeartbeats 1000000 in
theorem reffromSecs_bad {n : Int} (w : World) (hn : n < -62167219200 ∨ 253402300800 ≤ n) :
    Calls Try.prog 49 #[.int .i64 n] w fun e w' => e = .returned (.tuple #[time 0 0 0 0 0 0, .int .i64 9]) ∧ Below w.heap.size w w' := by
  have hc : n < -62167219200 ∨ (¬ n < -62167219200 ∧ 253402300799 < n) := by omega
  clear hn
  rcases hc with h1 | ⟨h1, h2⟩
  all_goals
    go_enter Try.func49, Try.ntmps49
    go_upto_region 2 with (go_at_call 45; refine (ref_first _).mono ?_; rintro e w1 ⟨rfl, hb1⟩)
    have tb1 := blk1 hb1
    have bel1 := Kit.bel1 hb1
    clear hb1
    go_upto_region 3 with (go_at_call 45; refine (ref_last _).mono ?_; rintro e w2 ⟨rfl, hb2⟩)
    have tb2 := (hb2.block _ (Blk_lt tb1)).trans tb1
    have bel2 : Below w.heap.size w w2 := bel1.trans (hb2.mono bel1.size)
    have z2 := Blk_lt tb2
    clear hb2 tb1 bel1
    obtain ⟨q0, q1, q2, q3, q4, q5⟩ := cells6 tb2
    obtain ⟨f0, f1, f2, f3, f4, f5⟩ := free6 tb2
    go_wp2
    clear q0 q1 q2 q3 q4 q5 f0 f1 f2 f3 f4 f5
    have tc := cells6 (set6 (.int .i64 0) (.int .i64 0) (.int .i64 0) (.int .i64 0) (.int .i64 0) (.int .i64 0) tb2)
    refine bodyPost_ret (v := .tuple #[time 0 0 0 0 0 0, .int .i64 9]) (by simp [results, Try.results49, go_sem, *]) rfl ?_
    exact ⟨rfl, (by repeat' (first | (with_reducible exact Below.refl _ _) | (with_reducible assumption) | (with_reducible refine below_drewN ?_ _) | (with_reducible refine Below.drew ?_) | (with_reducible refine Below.alloc ?_ ?_ _) | (with_reducible refine Below.setCell ?_ ?_ _) | go_size))⟩

set_option maxRecDepth 100000 in
set_option maxHeartbeats 4000000 in
theorem reffromSecs_ok {n : Int} (w : World) (h1 : -62167219200 ≤ n) (h2 : n < 253402300800) :
    Calls Try.prog 49 #[.int .i64 n] w fun e w' => ∃ y m d h mi s, e = .returned (.tuple #[time y m d h mi s, .int .i64 0]) ∧ Below w.heap.size w w' ∧ validB y m d h mi s = true ∧ secs y m d h mi s = n := by
  have c1 : ¬ n < -62167219200 := by omega
  have c2 : ¬ 253402300799 < n := by omega
  go_enter Try.func49, Try.ntmps49
  go_upto_region 2 with (go_at_call 45; refine (ref_first _).mono ?_; rintro e w1 ⟨rfl, hb1⟩)
  have tb1 := blk1 hb1
  have bel1 := Kit.bel1 hb1
  clear hb1
  go_upto_region 3 with (go_at_call 45; refine (ref_last _).mono ?_; rintro e w2 ⟨rfl, hb2⟩)
  have tb2 := (hb2.block _ (Blk_lt tb1)).trans tb1
  have bel2 : Below w.heap.size w w2 := bel1.trans (hb2.mono bel1.size)
  clear hb2 tb1 bel1
  go_wp2
  go_loopw [8, 9] (fun a b wr => ∃ lo hi : Int, 0 ≤ lo ∧ lo ≤ hi ∧ hi ≤ 9999 ∧ a = .int .i64 lo ∧ b = .int .i64 hi ∧ Hid ((bef lo - 719528) * 86400 ≤ n ∧ n < (bef (hi + 1) - 719528) * 86400) ∧ Below w.heap.size w wr ∧ wr.heap[w.heap.size]? = some (.cells #[.int .i64 0, .int .i64 0, .int .i64 0, .int .i64 0, .int .i64 0, .int .i64 0] 26 (0, 0)))
    (fun a b _ => (intOf b - intOf a).toNat)
  case atStart => exact ⟨0, 9999, by omega, by omega, by omega, rfl, rfl, Lib.hid (by rw [bef_zero, show (9999 : Int) + 1 = 10000 from rfl, bef_max]; omega), bel2, tb2⟩
  case round =>
    clear tb2 bel2
    obtain ⟨lo, hi, l0, l1, l2, rfl, rfl, hn, bel, tb⟩ := hrel
    have T0 := Lib.hid tb
    clear tb
    by_cases hlt : lo < hi
    · obtain ⟨mid, hmid⟩ : ∃ mid, (lo + hi + 1) / 2 = mid := ⟨_, rfl⟩
      have dm : (lo + hi + 1).tdiv 2 = mid := by rw [Int.tdiv_eq_ediv_of_nonneg (by omega)]; exact hmid
      have m0 : 0 ≤ mid := by omega
      have m1 : mid ≤ 9999 := by omega
      have m2 : lo < mid := by omega
      have m3 : mid ≤ hi := by omega
      obtain ⟨v1, v2⟩ := secs_year m0 m1
      have SY := Lib.hid (fun w => refsecs_ok w v1)
      rw [v2] at SY
      obtain ⟨sy, hsy⟩ : ∃ sy, (bef mid - 719528) * 86400 = sy := ⟨_, rfl⟩
      rw [hsy] at SY
      have HSY := Lib.hid hsy
      clear v1 v2 hmid hsy
      by_cases hle : sy ≤ n
      · go_wp2_with (go_at_call 45; refine (SY.out _).mono ?_; rintro e w3 ⟨rfl, hb3⟩)
        go_roundw
        case rel => exact ⟨mid, hi, m0, m3, l2, rfl, rfl, Lib.hid ⟨by rw [HSY.out]; exact hle, hn.out.2⟩, bel.trans (hb3.mono bel.size), (hb3.block _ (Blk_lt T0.out)).trans T0.out⟩
        case measure => simp [intOf]; omega
      · go_wp2_with (go_at_call 45; refine (SY.out _).mono ?_; rintro e w3 ⟨rfl, hb3⟩)
        go_roundw
        case rel => exact ⟨lo, mid - 1, l0, by omega, by omega, rfl, rfl, Lib.hid ⟨hn.out.1, by rw [show mid - 1 + 1 = mid from by omega, HSY.out]; omega⟩, bel.trans (hb3.mono bel.size), (hb3.block _ (Blk_lt T0.out)).trans T0.out⟩
        case measure => simp [intOf]; omega
    · obtain rfl : hi = lo := by omega
      obtain ⟨v1, v2⟩ := secs_year l0 l2
      have SY := Lib.hid (fun w => refsecs_ok w v1)
      rw [v2] at SY
      obtain ⟨sy, hsy⟩ : ∃ sy, (bef hi - 719528) * 86400 = sy := ⟨_, rfl⟩
      rw [hsy] at SY
      have HSY := Lib.hid hsy
      have hsn : sy ≤ n := by rw [← hsy]; exact hn.out.1
      have hs0 : -62167219200 ≤ sy := by have := bef_nonneg l0; omega
      clear v1 v2 hsy
      go_upto_region 15 with (go_at_call 45; refine (SY.out _).mono ?_; rintro e w3 ⟨rfl, hb3⟩)
      have t1 := blk1 hb3
      have bel3 : Below w.heap.size w w3 := bel.trans ((Kit.bel1 hb3).mono bel.size)
      have t0 := ((Kit.bel1 hb3).block _ (Blk_lt T0.out)).trans T0.out
      have hb0 : w.heap.size ≤ wr.heap.size := bel.size
      have hne1 : ¬ w.heap.size = wr.heap.size := Nat.ne_of_lt (Blk_lt T0.out)
      have hne2 : ¬ wr.heap.size = w.heap.size := fun h => hne1 h.symm
      clear hb3 T0 bel SY l1
      generalize hg : wr.heap.size = b1 at *
      clear hg
      have hn' := hn.out.2
      obtain ⟨L, hL⟩ : ∃ L, bef (hi + 1) = L := ⟨_, rfl⟩
      rw [hL] at hn'
      have HL := Lib.hid hL
      have hsy := HSY.out
      have hmb := ms_one hi
      have hd1 := Lib.hid (show sy = (dayNo hi 1 1 - 719528) * 86400 from by rw [← hsy]; unfold dayNo; rw [hmb]; omega)
      have hd2 := Lib.hid (show (1 : Int) ≤ days hi 1 from by rw [days_31 l0 l2 (by omega)]; omega)
      clear hL HSY hn hsy hmb
      have T0 := Lib.hid t0
      have T1 := Lib.hid t1
      clear t0 t1
      go_loopw [14] (fun a wr' => ∃ m d s : Int, 1 ≤ m ∧ m ≤ 12 ∧ 1 ≤ d ∧ d ≤ 31 ∧ a = .int .i64 s ∧ Hid (d ≤ days hi m) ∧ Hid (s = (dayNo hi m d - 719528) * 86400) ∧ s ≤ n ∧ -62167219200 ≤ s ∧ Below w.heap.size w wr' ∧ wr'.heap[w.heap.size]? = some (.cells #[.int .i64 0, .int .i64 0, .int .i64 0, .int .i64 0, .int .i64 0, .int .i64 0] 26 (0, 0)) ∧
        wr'.heap[b1]? = some (.cells #[.int .i64 hi, .int .i64 m, .int .i64 d, .int .i64 0, .int .i64 0, .int .i64 0] 26 (0, 0))) (fun a _ => (n - intOf a).toNat)
      case atStart => exact ⟨1, 1, sy, by omega, by omega, by omega, by omega, rfl, hd2, hd1, hsn, hs0, bel3, T0.out, T1.out⟩
      case round =>
        clear T0 T1 bel3 hd1 hd2 hsn hs0
        obtain ⟨m, d, s, k1, k2, k3, k4, rfl, hdd, hss, hsn, hs0, bel, t0, t1⟩ := hrel
        have zr := bel.size
        obtain ⟨q0, q1, q2, q3, q4, q5⟩ := cells6 t1
        obtain ⟨f0, f1, f2, f3, f4, f5⟩ := free6 t1
        have T0 := Lib.hid t0
        have T1 := Lib.hid t1
        by_cases hge : 86400 ≤ n - s
        · have hnx := day_next l0 l2 k1 k2 k3 hdd.out (by rw [HL.out]; have := hss.out; omega)
          have DY := Lib.hid (fun w => refdays_any hi m w)
          obtain ⟨z, hz⟩ : ∃ z, days hi m = z := ⟨_, rfl⟩
          rw [hz] at DY hnx
          obtain ⟨x1, x2⟩ := hnx
          clear t0 t1
          by_cases hz2 : z < d + 1
          · obtain ⟨y1, y2, y3⟩ := x2 hz2
            have Y2 := Lib.hid (show s + 86400 = (dayNo hi (m + 1) 1 - 719528) * 86400 from by rw [y2, hss.out]; omega)
            have Y3 := Lib.hid y3
            clear x1 x2 y2 y3 hz hdd hss
            go_wp2
            go_quiet ((go_at_call 15; exact Kit.quiet_same (DY.out _)))
            go_wp2
            go_roundw
            case rel => exact ⟨m + 1, 1, s + 86400, by omega, y1, by omega, by omega, rfl, Y3, Y2, by omega, by omega, (by repeat' (first | (with_reducible exact Below.refl _ _) | (with_reducible assumption) | (with_reducible refine below_drewN ?_ _) | (with_reducible refine Below.drew ?_) | (with_reducible refine Below.alloc ?_ ?_ _) | (with_reducible refine Below.setCell ?_ ?_ _) | go_size)), set_far (set_far (set_far T0.out hne1 _) hne1 _) hne1 _, (put6 ((put6 ((put6 T1.out).2.2.1 _)).2.2.1 _)).2.1 _⟩
            case measure => simp [intOf]; omega
          · have Y2 := Lib.hid (show s + 86400 = (dayNo hi m (d + 1) - 719528) * 86400 from by rw [x1 (by omega), hss.out]; omega)
            have Y3 := Lib.hid (show d + 1 ≤ days hi m from by rw [hz]; omega)
            have hdb := (days_bd hi m).2
            rw [hz] at hdb
            clear x1 x2 hz hdd hss
            go_wp2
            go_quiet ((go_at_call 15; exact Kit.quiet_same (DY.out _)))
            go_wp2
            go_roundw
            case rel => exact ⟨m, d + 1, s + 86400, by omega, by omega, by omega, by omega, rfl, Y3, Y2, by omega, by omega, (by repeat' (first | (with_reducible exact Below.refl _ _) | (with_reducible assumption) | (with_reducible refine below_drewN ?_ _) | (with_reducible refine Below.drew ?_) | (with_reducible refine Below.alloc ?_ ?_ _) | (with_reducible refine Below.setCell ?_ ?_ _) | go_size)), set_far T0.out hne1 _, (put6 T1.out).2.2.1 _⟩
            case measure => simp [intOf]; omega
        · obtain ⟨R, hR⟩ : ∃ R, n - s = R := ⟨_, rfl⟩
          obtain ⟨H, hH⟩ : ∃ H, R / 3600 = H := ⟨_, rfl⟩
          obtain ⟨M0, hM⟩ : ∃ M0, R % 3600 = M0 := ⟨_, rfl⟩
          obtain ⟨MI, hMI⟩ : ∃ MI, M0 / 60 = MI := ⟨_, rfl⟩
          obtain ⟨S, hS⟩ : ∃ S, R % 60 = S := ⟨_, rfl⟩
          have p1 : 0 ≤ R ∧ R < 86400 := by omega
          obtain ⟨p1, p2⟩ := p1
          have p3 : 0 ≤ M0 := by omega
          have PV := Lib.hid (show 0 ≤ H ∧ H < 24 ∧ 0 ≤ MI ∧ MI < 60 ∧ 0 ≤ S ∧ S < 60 ∧ n = s + (H * 3600 + MI * 60 + S) from by omega)
          have d1 : R.tdiv 3600 = H := by rw [Int.tdiv_eq_ediv_of_nonneg (by omega)]; exact hH
          have d2 : R.tmod 3600 = M0 := by rw [Int.tmod_eq_emod_of_nonneg (by omega)]; exact hM
          have d3 : M0.tdiv 60 = MI := by rw [Int.tdiv_eq_ediv_of_nonneg (by omega)]; exact hMI
          have d4 : R.tmod 60 = S := by rw [Int.tmod_eq_emod_of_nonneg (by omega)]; exact hS
          have p4 : M0 < 3600 := by omega
          clear hH hM hMI hS
          obtain ⟨i1, i2, i3, i4, i5, i6, i7⟩ := PV.out
          clear i7
          obtain ⟨e0, e1, e2, e3, e4, e5⟩ := cells6 t0
          obtain ⟨g0, g1, g2, g3, g4, g5⟩ := free6 t0
          clear t0 t1
          go_wp2
          clear q0 q1 q2 q3 q4 q5 f0 f1 f2 f3 f4 f5 g0 g1 g2 g3 g4 g5 e0 e1 e2 e3 e4 e5
          have tc := cells6 (set6 (.int .i64 hi) (.int .i64 m) (.int .i64 d) (.int .i64 H) (.int .i64 MI) (.int .i64 S) (set_far (k := 5) (set_far (k := 4) (set_far (k := 3) T0.out hne1 (.int .i64 H)) hne1 (.int .i64 MI)) hne1 (.int .i64 S)))
          refine bodyPost_ret (v := .tuple #[time hi m d H MI S, .int .i64 0]) (by simp [results, Try.results49, go_sem, *]) rfl ?_
          refine ⟨hi, m, d, H, MI, S, rfl, (by repeat' (first | (with_reducible exact Below.refl _ _) | (with_reducible assumption) | (with_reducible refine below_drewN ?_ _) | (with_reducible refine Below.drew ?_) | (with_reducible refine Below.alloc ?_ ?_ _) | (with_reducible refine Below.setCell ?_ ?_ _) | go_size)), ?_, ?_⟩
          · have := PV.out
            have := hdd.out
            rw [valid_iff]; omega
          · have := PV.out
            have := hss.out
            unfold secs; omega
end Go.Proofs.Ytkkgcfllfhkoaaa.Clk
