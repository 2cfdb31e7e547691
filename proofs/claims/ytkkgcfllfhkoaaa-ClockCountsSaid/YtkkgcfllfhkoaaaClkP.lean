/- Walks: the clock's FromSeconds. -/
import Derived.Test.YtkkgcfllfhkoaaaClkO
import Derived.Test.YtkkgcfllfhkoaaaClkJ
set_option linter.unusedSimpArgs false
set_option linter.unusedVariables false
namespace Go.Proofs.Ytkkgcfllfhkoaaa.Clk
open Go.RowKit Kit

/-- the cell of a block, behind a store into it -/
theorem put6 {w : World} {b : Nat} {x0 x1 x2 x3 x4 x5 : Value} {t : TypeId} (h : w.heap[b]? = some (.cells #[x0, x1, x2, x3, x4, x5] t (0, 0))) :
    (∀ y, (w.setCell ⟨b, 0, none⟩ y).heap[b]? = some (.cells #[y, x1, x2, x3, x4, x5] t (0, 0))) ∧ (∀ y, (w.setCell ⟨b, 1, none⟩ y).heap[b]? = some (.cells #[x0, y, x2, x3, x4, x5] t (0, 0))) ∧ (∀ y, (w.setCell ⟨b, 2, none⟩ y).heap[b]? = some (.cells #[x0, x1, y, x3, x4, x5] t (0, 0))) ∧
      (∀ y, (w.setCell ⟨b, 3, none⟩ y).heap[b]? = some (.cells #[x0, x1, x2, y, x4, x5] t (0, 0))) ∧ (∀ y, (w.setCell ⟨b, 4, none⟩ y).heap[b]? = some (.cells #[x0, x1, x2, x3, y, x5] t (0, 0))) ∧ (∀ y, (w.setCell ⟨b, 5, none⟩ y).heap[b]? = some (.cells #[x0, x1, x2, x3, x4, y] t (0, 0))) :=
  ⟨fun y => heap_setCell_same _ b 0 _ _ y h, fun y => heap_setCell_same _ b 1 _ _ y h, fun y => heap_setCell_same _ b 2 _ _ y h, fun y => heap_setCell_same _ b 3 _ _ y h, fun y => heap_setCell_same _ b 4 _ _ y h, fun y => heap_setCell_same _ b 5 _ _ y h⟩
theorem set_far {w : World} {b c k : Nat} {o : Obj} (h : w.heap[b]? = some o) (hne : b ≠ c) (y : Value) : (w.setCell ⟨c, k, none⟩ y).heap[b]? = some o := by
  rw [heap_setCell_other _ _ _ _ hne]; exact h

set_option maxHeartbeats 1000000 in
theorem fromSecs_bad {n : Int} (w : World) (hn : n < -62167219200 ∨ 253402300800 ≤ n) :
    Calls Try.prog 48 #[.int .i64 n] w fun e w' => e = .returned (.tuple #[time 0 0 0 0 0 0, .int .i64 9]) ∧ Below w.heap.size w w' := by
  have HB := Lib.hid (fun w => before_any 10000 w (by omega) (by omega))
  rw [bef_max] at HB
  by_cases h1 : n < -62167219200
  · clear hn
    go_enter Try.func48, Try.ntmps48
    go_wp2
    refine bodyPost_ret (v := .tuple #[time 0 0 0 0 0 0, .int .i64 9]) (by simp [results, Try.results48, go_sem, *]) rfl ?_
    exact ⟨rfl, (by repeat' (first | (with_reducible exact Below.refl _ _) | (with_reducible assumption) | (with_reducible refine below_drewN ?_ _) | (with_reducible refine Below.drew ?_) | (with_reducible refine Below.alloc ?_ ?_ _) | (with_reducible refine Below.setCell ?_ ?_ _) | go_size))⟩
  · have h2 : 253402300800 ≤ n := by omega
    clear hn
    go_enter Try.func48, Try.ntmps48
    go_wp2_with (go_at_call 64; refine (HB.out _).mono ?_; rintro e w' ⟨rfl, rfl⟩)
    refine bodyPost_ret (v := .tuple #[time 0 0 0 0 0 0, .int .i64 9]) (by simp [results, Try.results48, go_sem, *]) rfl ?_
    exact ⟨rfl, (by repeat' (first | (with_reducible exact Below.refl _ _) | (with_reducible assumption) | (with_reducible refine below_drewN ?_ _) | (with_reducible refine Below.drew ?_) | (with_reducible refine Below.alloc ?_ ?_ _) | (with_reducible refine Below.setCell ?_ ?_ _) | go_size))⟩

theorem fs_plain {n N D R H M0 MI S : Int} (h1 : -62167219200 ≤ n) (h2 : n < 253402300800) (hN : n + 62167219200 = N) (hD : N / 86400 = D) (hR : N % 86400 = R) (hH : R / 3600 = H) (hM : R / 60 = M0) (hMI : M0 % 60 = MI) (hS : R % 60 = S) :
    0 ≤ N ∧ 0 ≤ D ∧ D < 3652425 ∧ 0 ≤ R ∧ R < 86400 ∧ 0 ≤ H ∧ H < 24 ∧ 0 ≤ M0 ∧ M0 < 1440 ∧ 0 ≤ MI ∧ MI < 60 ∧ 0 ≤ S ∧ S < 60 ∧ n = (D - 719528) * 86400 + (H * 3600 + MI * 60 + S) := by omega

set_option maxRecDepth 100000 in
set_option maxHeartbeats 4000000 in
theorem fromSecs_ok {n : Int} (w : World) (h1 : -62167219200 ≤ n) (h2 : n < 253402300800) :
    Calls Try.prog 48 #[.int .i64 n] w fun e w' => ∃ y m d h mi s, e = .returned (.tuple #[time y m d h mi s, .int .i64 0]) ∧ Below w.heap.size w w' ∧ validB y m d h mi s = true ∧ secs y m d h mi s = n := by
  have HB := Lib.hid (fun w => before_any 10000 w (by omega) (by omega))
  rw [bef_max] at HB
  have c1 : ¬ n < -62167219200 := by omega
  have c2 : ¬ 253402300800 ≤ n := by omega
  obtain ⟨N, hN⟩ : ∃ N, n + 62167219200 = N := ⟨_, rfl⟩
  obtain ⟨D, hD⟩ : ∃ D, N / 86400 = D := ⟨_, rfl⟩
  obtain ⟨R, hR⟩ : ∃ R, N % 86400 = R := ⟨_, rfl⟩
  obtain ⟨H, hH⟩ : ∃ H, R / 3600 = H := ⟨_, rfl⟩
  obtain ⟨M0, hM⟩ : ∃ M0, R / 60 = M0 := ⟨_, rfl⟩
  obtain ⟨MI, hMI⟩ : ∃ MI, M0 % 60 = MI := ⟨_, rfl⟩
  obtain ⟨S, hS⟩ : ∃ S, R % 60 = S := ⟨_, rfl⟩
  obtain ⟨Y, hY⟩ : ∃ Y, D / 366 = Y := ⟨_, rfl⟩
  obtain ⟨p1, p2, p3, p4, p5, p6, p7, p8, p8a, p9, p10, p11, p12, p13⟩ := fs_plain h1 h2 hN hD hR hH hM hMI hS
  have hY0 : 0 ≤ Y := by omega
  have hY1 : Y ≤ 9999 := by omega
  have HY := Lib.hid (show bef Y ≤ D from by have := bef_le_366 hY0; omega)
  have d1 : N.tdiv 86400 = D := by rw [Int.tdiv_eq_ediv_of_nonneg (by omega)]; exact hD
  have d2 : N.tmod 86400 = R := by rw [Int.tmod_eq_emod_of_nonneg (by omega)]; exact hR
  have d3 : D.tdiv 366 = Y := by rw [Int.tdiv_eq_ediv_of_nonneg (by omega)]; exact hY
  have d4 : R.tdiv 3600 = H := by rw [Int.tdiv_eq_ediv_of_nonneg (by omega)]; exact hH
  have d5 : R.tdiv 60 = M0 := by rw [Int.tdiv_eq_ediv_of_nonneg (by omega)]; exact hM
  have d6 : M0.tmod 60 = MI := by rw [Int.tmod_eq_emod_of_nonneg (by omega)]; exact hMI
  have d7 : R.tmod 60 = S := by rw [Int.tmod_eq_emod_of_nonneg (by omega)]; exact hS
  have PN := Lib.hid p13
  clear hD hR hH hM hMI hS hY p13
  go_enter Try.func48, Try.ntmps48
  go_wp2_with (go_at_call 64; refine (HB.out _).mono ?_; rintro e w' ⟨rfl, rfl⟩)
  go_loopw [] (fun wr => ∃ y : Int, 0 ≤ y ∧ y ≤ 9999 ∧ Hid (bef y ≤ D) ∧ Below w.heap.size w wr ∧ wr.heap[w.heap.size]? = some (.cells #[.int .i64 0, .int .i64 0, .int .i64 0, .int .i64 0, .int .i64 0, .int .i64 0] 26 (0, 0)) ∧
      wr.heap[w.heap.size + 1]? = some (.cells #[.int .i64 y, .int .i64 1, .int .i64 0, .int .i64 H, .int .i64 MI, .int .i64 S] 26 (0, 0))) (fun wr => (10000 - intOf ((wr.cell? ⟨w.heap.size + 1, 0, none⟩).getD undef)).toNat)
  case atStart =>
    refine ⟨Y, hY0, hY1, HY, (by repeat' (first | (with_reducible exact Below.refl _ _) | (with_reducible assumption) | (with_reducible refine below_drewN ?_ _) | (with_reducible refine Below.drew ?_) | (with_reducible refine Below.alloc ?_ ?_ _) | (with_reducible refine Below.setCell ?_ ?_ _) | go_size)), ?_, ?_⟩
    · exact bk_old (bk_new rfl)
    · exact bk_new (by simp)
  case round =>
    clear hY0 hY1 HY
    obtain ⟨y, y0, y1, hy, hbr, t0, t1⟩ := hrel
    have zr := hbr.size
    have zb := Blk_lt t1
    obtain ⟨q0, q1, q2, q3, q4, q5⟩ := cells6 t1
    obtain ⟨f0, f1, f2, f3, f4, f5⟩ := free6 t1
    have T0 := Lib.hid t0
    have T1 := Lib.hid t1
    clear t0 t1
    have BY := Lib.hid (fun w => before_any (y + 1) w (by omega) (by omega))
    have BZ := Lib.hid (fun w => before_any y w (by omega) (by omega))
    have hs := bef_succ y0
    by_cases hlt : bef (y + 1) ≤ D
    · have hne : y ≠ 9999 := by
        rintro rfl
        simp only [Int.reduceAdd, bef_max] at hlt
        omega
      have HL := Lib.hid hlt
      obtain ⟨B, hB⟩ : ∃ B, bef (y + 1) = B := ⟨_, rfl⟩
      have HBB := Lib.hid hB
      rw [hB] at BY hlt
      clear hB hs
      go_wp2_with (go_at_call 64; refine (BY.out _).mono ?_; rintro e w' ⟨rfl, rfl⟩)
      go_roundw
      case rel => exact ⟨y + 1, by omega, by omega, HL, (by repeat' (first | (with_reducible exact Below.refl _ _) | (with_reducible assumption) | (with_reducible refine below_drewN ?_ _) | (with_reducible refine Below.drew ?_) | (with_reducible refine Below.alloc ?_ ?_ _) | (with_reducible refine Below.setCell ?_ ?_ _) | go_size)), set_far T0.out (by omega) _, (put6 T1.out).1 _⟩
      case measure =>
        have e := (cells6 ((put6 T1.out).1 (.int .i64 (y + 1)))).1
        simp only [e, q0, Option.getD_some, intOf]
        omega
    · have HL := Lib.hid hlt
      obtain ⟨B, hB⟩ : ∃ B, bef (y + 1) = B := ⟨_, rfl⟩
      obtain ⟨B0, hB0⟩ : ∃ B0, bef y = B0 := ⟨_, rfl⟩
      have hy' := hy.out
      have hb0 := bef_nonneg y0
      have hbx := bef_le_366 y0
      rw [hB] at BY hlt hs
      rw [hB0] at BZ hy' hs hb0 hbx
      have HB0 := Lib.hid hB0
      have hyl := ylen_bd y
      have hD0 : 0 ≤ D - B0 := by omega
      have hD1 : D - B0 < ylen y := by omega
      have hD2 : D - B0 < 366 := by omega
      have HD1 := Lib.hid hD1
      clear hB hB0 HL hD1 hs hyl
      go_wp2_with (first | (go_at_call 64; with_reducible refine (BY.out _).mono ?_; rintro e w' ⟨rfl, rfl⟩) | (go_at_call 64; with_reducible refine (BZ.out _).mono ?_; rintro e w' ⟨rfl, rfl⟩))
      clear q0 q1 q2 q3 q4 q5 f0 f1 f2 f3 f4 f5 zb
      go_loopw [4] (fun dd wr' => ∃ k : Int, 1 ≤ k ∧ k ≤ 12 ∧ dd = .int .i64 (D - B0 - ms y k) ∧ Hid (0 ≤ D - B0 - ms y k) ∧ Below w.heap.size w wr' ∧ wr'.heap[w.heap.size]? = some (.cells #[.int .i64 0, .int .i64 0, .int .i64 0, .int .i64 0, .int .i64 0, .int .i64 0] 26 (0, 0)) ∧
        wr'.heap[w.heap.size + 1]? = some (.cells #[.int .i64 y, .int .i64 k, .int .i64 0, .int .i64 H, .int .i64 MI, .int .i64 S] 26 (0, 0))) (fun _ wr' => (13 - intOf ((wr'.cell? ⟨w.heap.size + 1, 1, none⟩).getD undef)).toNat)
      case atStart => exact ⟨1, by omega, by omega, by rw [ms_one]; simp, Lib.hid (by rw [ms_one]; omega), hbr, T0.out, T1.out⟩
      case round =>
        clear T0 T1 hbr zr
        obtain ⟨k, k1, k2, rfl, hk, hbr, t0, t1⟩ := hrel
        have zr := hbr.size
        have zb := Blk_lt t1
        obtain ⟨q0, q1, q2, q3, q4, q5⟩ := cells6 t1
        obtain ⟨f0, f1, f2, f3, f4, f5⟩ := free6 t1
        have T0 := Lib.hid t0
        have T1 := Lib.hid t1
        have hm0 := ms_bd y k1
        have hst := Lib.hid (ms_succ y k1)
        have hdb := days_bd y k
        have hk' := hk.out
        have DY := Lib.hid (fun w => days_any y k w)
        obtain ⟨z, hz⟩ : ∃ z, days y k = z := ⟨_, rfl⟩
        obtain ⟨v, hv⟩ : ∃ v, ms y k = v := ⟨_, rfl⟩
        have HV := Lib.hid hv
        have HZ := Lib.hid hz
        rw [hz] at DY hdb
        rw [hv] at hk' hm0 ⊢
        by_cases hge : z ≤ D - B0 - v
        · have hne : k ≠ 12 := by
            rintro rfl
            have e := hst.out
            have ht := (ms_tab y0 y1).2.2.2.2.2.2.2.2.2.2.2.2
            have hd := HD1.out
            simp only [Int.reduceAdd] at e
            rw [hv, hz] at e
            omega
          have HN := Lib.hid (show ms y (k + 1) = v + z from by rw [hst.out, hv, hz])
          clear hv hz t0 t1 hk
          go_wp2_with (go_at_call 14; refine (DY.out _).mono ?_; rintro e w' ⟨rfl, rfl⟩)
          go_roundw
          case rel => exact ⟨k + 1, by omega, by omega, by rw [HN.out, show D - B0 - v - z = D - B0 - (v + z) from by omega], Lib.hid (by rw [HN.out]; omega), (by repeat' (first | (with_reducible exact Below.refl _ _) | (with_reducible assumption) | (with_reducible refine below_drewN ?_ _) | (with_reducible refine Below.drew ?_) | (with_reducible refine Below.alloc ?_ ?_ _) | (with_reducible refine Below.setCell ?_ ?_ _) | go_size)), set_far T0.out (by omega) _, (put6 T1.out).2.1 _⟩
          case measure =>
            have e := (cells6 ((put6 T1.out).2.1 (.int .i64 (k + 1)))).1
            have e := (cells6 ((put6 T1.out).2.1 (.int .i64 (k + 1)))).2.1
            simp only [e, q1, Option.getD_some, intOf]
            omega
        · obtain ⟨g0, g1, g2, g3, g4, g5⟩ := free6 t0
          obtain ⟨e0, e1, e2, e3, e4, e5⟩ := cells6 t0
          clear hv hz t0 t1 hk
          go_wp2_with (go_at_call 14; refine (DY.out _).mono ?_; rintro e w' ⟨rfl, rfl⟩)
          clear q0 q1 q2 q3 q4 q5 f0 f1 f2 f3 f4 f5 g0 g1 g2 g3 g4 g5 e0 e1 e2 e3 e4 e5
          have tc := cells6 (set6 (.int .i64 y) (.int .i64 k) (.int .i64 (D - B0 - v + 1)) (.int .i64 H) (.int .i64 MI) (.int .i64 S) (set_far (c := w.heap.size + 1) (k := 2) T0.out (by omega) (.int .i64 (D - B0 - v + 1))))
          refine bodyPost_ret (v := .tuple #[time y k (D - B0 - v + 1) H MI S, .int .i64 0]) (by simp [results, Try.results48, go_sem, *]) rfl ?_
          refine ⟨y, k, _, H, MI, S, rfl, (by repeat' (first | (with_reducible exact Below.refl _ _) | (with_reducible assumption) | (with_reducible refine below_drewN ?_ _) | (with_reducible refine Below.drew ?_) | (with_reducible refine Below.alloc ?_ ?_ _) | (with_reducible refine Below.setCell ?_ ?_ _) | go_size)), ?_, ?_⟩
          · rw [valid_iff, HZ.out]; omega
          · rw [PN.out]; unfold secs dayNo; rw [HV.out, HB0.out]; omega
end Go.Proofs.Ytkkgcfllfhkoaaa.Clk
