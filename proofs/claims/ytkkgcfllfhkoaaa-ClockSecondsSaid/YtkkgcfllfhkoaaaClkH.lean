/- Walks: the clock's decode of a UTCTime's digits. -/
import Derived.Test.YtkkgcfllfhkoaaaClkG
import Derived.Test.YtkkgcfllfhkoaaaClkC
set_option linter.unusedSimpArgs false
set_option linter.unusedVariables false
namespace Go.Proofs.Ytkkgcfllfhkoaaa.Clk
open Go.RowKit Kit

set_option maxHeartbeats 2000000 in
set_option maxRecDepth 100000 in
theorem decode2_ok {A : Option Addr} {n c : Nat} {l : List UInt8} (w : World) (hr : Rd w w.heap.size A n l) (hc : n ≤ c) (hok : okC 2 l) :
    Calls Try.prog 56 #[.slice A n c, .int .i64 2] w fun e w' => e = .returned (.tuple #[time (yr2 l) (pr l 2) (pr l 4) (pr l 6) (pr l 8) (pr l 10), .bool (validB (yr2 l) (pr l 2) (pr l 4) (pr l 6) (pr l 8) (pr l 10))]) ∧ Below w.heap.size w w' := by
  have hn : n = 2 + 11 := by rw [← hr.len]; exact hok.1
  obtain rfl : n = 13 := hn
  have hr0 := hr
  obtain ⟨ad, rfl, hb0, c1⟩ := hr.all_ (by omega)
  have hb1 : ad.block < w.heap.size + 1 := by omega
  have C1 := Lib.hid c1
  have c0 := c1 12 (by omega)
  rw [add_pos ad (by omega)] at c0
  have hz := hok.2.1
  have hD := hok.2.2
  have HD := Lib.hid hD
  have HK := Lib.hid hok
  simp only [Nat.reduceAdd] at hz
  have H4 := Lib.hid hr0
  clear c1 hD hok hr hr0
  go_enter Try.func56, Try.ntmps56
  go_wp2
  go_loop [34] (fun i => ∃ k : Nat, k ≤ 12 ∧ i = .int .i64 k) (fun i => 13 - (intOf i).toNat)
  case atStart => exact ⟨0, Nat.zero_le _, rfl⟩
  case round =>
    obtain ⟨k, hk, rfl⟩ := hrel
    by_cases hlt : k < 12
    · have ck := C1.out k (by omega)
      have bk0 : (ad.add k).block < w.heap.size := by rw [block_add]; exact hb0
      have bk1 : (ad.add k).block < w.heap.size + 1 := by rw [block_add]; exact hb1
      obtain ⟨hlo, hhi⟩ := HD.out k (by omega)
      go_wp2
      go_round
      case rel => exact ⟨k + 1, by omega, by go_num⟩
      case measure => simp [intOf]; omega
    · obtain rfl : k = 12 := by omega
      clear c0 hz
      have NF := Lib.hid (next_first (c := c) H4.out HK.out (by omega))
      have HY := Lib.hid (show yr2 l = if pr l 0 < 50 then pr l 0 + 2000 else pr l 0 + 1900 from rfl)
      obtain ⟨p0, p1⟩ := pr_bd HK.out (show 0 + 1 < 2 + 10 by omega)
      have NX := Lib.hid (fun (b1 b2 b3 p : Nat) (cs : Array Value) (wx : World) (h : DS w wx w.heap.size b1 b2 b3 (some ad) 13 c l p cs) (hp : p + 1 < 12) => next_ds wx h HK.out hp (by omega))
      obtain ⟨y, hyy⟩ : ∃ y, yr2 l = y := ⟨_, rfl⟩
      have HYY := Lib.hid hyy
      have hcase : (pr l 0 + 1900 < 1950 ∧ y = pr l 0 + 1900 + 100) ∨ (¬ pr l 0 + 1900 < 1950 ∧ y = pr l 0 + 1900) := by
        rw [← hyy, HY.out]
        by_cases h : pr l 0 < 50
        · rw [if_pos h]; omega
        · rw [if_neg h]; omega
      clear hyy HY
      rcases hcase with ⟨hlt', rfl⟩ | ⟨hlt', rfl⟩
      all_goals
        go_wp2_with (first | (go_at_call 67; refine NF.out.mono ?_; rintro e w4 ⟨rfl, ds4⟩; have DS4 := Lib.hid ds4; clear ds4))
        go_loopw [77] (fun i wr => ∃ k : Nat, k ≤ 5 ∧ i = .int .i64 (k : Int) ∧ DS w wr w.heap.size (w.heap.size + 1) (w.heap.size + 1 + 1) w4.heap.size (some ad) 13 c l (2 + 2 * k) (tcs (yr2 l) 2 l k) ∧ wr.heap[w4.heap.size + 1]? = some (.cells (pts w4.heap.size) 89 (0, 0))) (fun i _ => 5 - (intOf i).toNat)
        case atStart => 
          refine ⟨0, by omega, rfl, ?_, bk_new (by simp)⟩
          rw [tcs_zero, HYY.out]
          exact (DS4.out _).alloc _
        case round => 
          obtain ⟨k, hk5, rfl, hds, hpt⟩ := hrel
          by_cases hlt : k < 5
          · have cp := cell_of_row wr _ k _ _ _ hpt
            rw [pts_at hlt] at cp
            have TS := Lib.hid (tcs_set (y := yr2 l) (dg := 2) (l := l) hlt)
            have TA := Lib.hid (tcs_at (y := yr2 l) (dg := 2) (l := l) hlt)
            have PT := Lib.hid hpt
            have HDS := Lib.hid hds
            have hb2 : w4.heap.size + 1 ≠ w.heap.size + 1 + 1 := by have := hds.2.2.2.2.2; omega
            have hb3 : w4.heap.size + 1 ≠ w4.heap.size := by omega
            clear hpt hds
            go_wp2_with (first | (go_at_call 67; refine (NX.out _ _ _ _ _ _ HDS.out (by omega)).mono ?_; rintro e w2 ⟨rfl, ds2, hg2⟩; have c2 := ds2.cell (k + 1); rw [TA.out] at c2; have f2 := ds2.frozen (k + 1); have DS2 := Lib.hid ds2; clear ds2))
            go_roundw
            case rel =>
              refine ⟨k + 1, by omega, by go_num, ?_, ?_⟩
              · have := DS2.out.set (k + 1) (.int .i64 (pr l (2 + 2 * k)))
                rw [TS.out] at this
                exact this
              · refine (Below.heap_setCell _ _ _ _ (by simp)).trans ?_
                exact (hg2.block _ (Blk_lt PT.out) (fun e => hb2 (by injection e))).trans PT.out
            case measure => simp [intOf]; omega
          · obtain rfl : k = 5 := by omega
            rw [tcs_five] at hds
            have HV := Lib.hid (valid_any (yr2 l) (pr l 2) (pr l 4) (pr l 6) (pr l 8) (pr l 10) wr.drew)
            obtain ⟨q0, q1, q2, q3, q4, q5⟩ := cells6 hds.2.2.2.1
            have HDS := Lib.hid hds.drew
            have HB := Lib.hid hds.below
            clear hds hpt
            go_wp2_with fail
            go_region_with (first | (go_at_call 16; refine HV.out.mono ?_; rintro e w5 ⟨rfl, hb5⟩; have ds5 := Lib.hid (HDS.out.past hb5); obtain ⟨t0, t1, t2, t3, t4, t5⟩ := cells6 ds5.out.2.2.2.1; have z0 := ds5.out.cell1 0 (by omega); have z1 := ds5.out.cell1 1 (by omega); have z2 := ds5.out.cell1 2 (by omega); have z3 := ds5.out.cell1 3 (by omega); have z4 := ds5.out.cell1 4 (by omega); have z5 := ds5.out.cell1 5 (by omega); have g0 := ds5.out.free1 0; have g1 := ds5.out.free1 1; have g2 := ds5.out.free1 2; have g3 := ds5.out.free1 3; have g4 := ds5.out.free1 4; have g5 := ds5.out.free1 5))
            all_goals
              go_wp2
              clear z0 z1 z2 z3 z4 z5 g0 g1 g2 g3 g4 g5 t0 t1 t2 t3 t4 t5 q0 q1 q2 q3 q4 q5
              have zz := ds5.out.cell1
              refine bodyPost_ret (v := .tuple #[time (yr2 l) (pr l 2) (pr l 4) (pr l 6) (pr l 8) (pr l 10), .bool (validB (yr2 l) (pr l 2) (pr l 4) (pr l 6) (pr l 8) (pr l 10))]) (by simp [results, Try.results56, go_sem, *]) rfl ?_
              refine ⟨rfl, ?_⟩
              have := ds5.out.below
              have hsz : w.heap.size ≤ w.heap.size + 1 := by omega
              exact (by repeat' (first | (with_reducible exact Below.refl _ _) | (with_reducible assumption) | (with_reducible refine below_drewN ?_ _) | (with_reducible refine Below.drew ?_) | (with_reducible refine Below.alloc ?_ ?_ _) | (with_reducible refine Below.setCell ?_ ?_ _) | go_size))
end Go.Proofs.Ytkkgcfllfhkoaaa.Clk
