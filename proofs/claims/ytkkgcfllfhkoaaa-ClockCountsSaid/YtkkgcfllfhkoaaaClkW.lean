/- The walk of ClockCounts. -/
import Derived.Test.YtkkgcfllfhkoaaaClkV
set_option linter.unusedSimpArgs false
set_option linter.unusedVariables false
namespace Go.Proofs.Ytkkgcfllfhkoaaa
open Go.RowKit Kit Clk

set_option maxRecDepth 100000 in
set_option maxHeartbeats 4000000 in
theorem ClockCounts.walk (n : Int) (W : World) (bd : -9223372036854775808 ≤ n ∧ n ≤ 9223372036854775807) :
    Calls Try.prog 12 #[.int .i64 n] W fun e w' => e = .returned (.bool true) ∧ Below W.heap.size W w' := by
  obtain ⟨bd0, bd1⟩ := bd
  by_cases hn : n < -62167219200 ∨ 253402300800 ≤ n
  · have F1 := Lib.hid (fun w => fromSecs_bad (n := n) w hn)
    have F2 := Lib.hid (fun w => reffromSecs_bad (n := n) w hn)
    clear hn
    go_enter Try.func12, Try.ntmps12
    go_upto_region 3 with (first | (go_at_call 13; refine (awake8_any _).mono ?_; rintro e w0 ⟨rfl, bel⟩))
    go_upto_region 4 with (first | (go_at_call 48; refine (F1.out _).mono ?_; rintro e w1 ⟨rfl, hb⟩))
    replace bel := bel_al bel hb (.cells #[.int .i64 0, .int .i64 0, .int .i64 0, .int .i64 0, .int .i64 0, .int .i64 0] 26)
    have t0 : (w1.alloc (.cells #[.int .i64 0, .int .i64 0, .int .i64 0, .int .i64 0, .int .i64 0, .int .i64 0] 26)).heap[w1.heap.size]? = _ := bk_new rfl
    clear hb
    generalize hg : w1.heap.size = b1 at *
    clear hg
    generalize w1.alloc (.cells #[.int .i64 0, .int .i64 0, .int .i64 0, .int .i64 0, .int .i64 0, .int .i64 0] 26) = w2 at *
    clear w1
    go_upto_region 5 with (first | (go_at_call 49; refine (F2.out _).mono ?_; rintro e w3 ⟨rfl, hb⟩))
    replace bel := bel_al bel hb (.cells #[.int .i64 0, .int .i64 0, .int .i64 0, .int .i64 0, .int .i64 0, .int .i64 0] 26)
    have t1 : (w3.alloc (.cells #[.int .i64 0, .int .i64 0, .int .i64 0, .int .i64 0, .int .i64 0, .int .i64 0] 26)).heap[w3.heap.size]? = _ := bk_new rfl
    replace t0 := bk_old (o' := .cells #[.int .i64 0, .int .i64 0, .int .i64 0, .int .i64 0, .int .i64 0, .int .i64 0] 26) (Clk.on t0 hb)
    clear hb
    generalize hg : w3.heap.size = b3 at *
    clear hg
    generalize w3.alloc (.cells #[.int .i64 0, .int .i64 0, .int .i64 0, .int .i64 0, .int .i64 0, .int .i64 0] 26) = w4 at *
    clear w3
    obtain ⟨q0, q1, q2, q3, q4, q5⟩ := cells6 t0
    obtain ⟨r0, r1, r2, r3, r4, r5⟩ := cells6 t1
    clear t0 t1 F1 F2
    go_wp2
    go_ret
    exact ⟨rfl, bel⟩
  · have h0 : -62167219200 ≤ n := by omega
    have h1 : n < 253402300800 := by omega
    have F1 := Lib.hid (fun w => fromSecs_ok (n := n) w h0 h1)
    have F2 := Lib.hid (fun w => reffromSecs_ok (n := n) w h0 h1)
    clear hn
    go_enter Try.func12, Try.ntmps12
    go_upto_region 3 with (first | (go_at_call 13; refine (awake8_any _).mono ?_; rintro e w0 ⟨rfl, bel⟩))
    go_upto_region 4 with (first | (go_at_call 48; refine (F1.out _).mono ?_; rintro e w1 ⟨u0, u1, u2, u3, u4, u5, rfl, hb, hv, hs⟩))
    replace bel := bel_al bel hb (.cells #[.int .i64 u0, .int .i64 u1, .int .i64 u2, .int .i64 u3, .int .i64 u4, .int .i64 u5] 26)
    have t0 : (w1.alloc (.cells #[.int .i64 u0, .int .i64 u1, .int .i64 u2, .int .i64 u3, .int .i64 u4, .int .i64 u5] 26)).heap[w1.heap.size]? = _ := bk_new rfl
    have HV := Lib.hid hv
    have HS := Lib.hid hs
    clear hb hv hs
    generalize hg : w1.heap.size = b1 at *
    clear hg
    generalize w1.alloc (.cells #[.int .i64 u0, .int .i64 u1, .int .i64 u2, .int .i64 u3, .int .i64 u4, .int .i64 u5] 26) = w2 at *
    clear w1
    go_upto_region 5 with (first | (go_at_call 49; refine (F2.out _).mono ?_; rintro e w3 ⟨v0, v1, v2, v3, v4, v5, rfl, hb, hv, hs⟩))
    obtain ⟨rfl, rfl, rfl, rfl, rfl, rfl⟩ := secs_inj hv HV.out (by rw [hs, HS.out])
    replace bel := bel_al bel hb (.cells #[.int .i64 v0, .int .i64 v1, .int .i64 v2, .int .i64 v3, .int .i64 v4, .int .i64 v5] 26)
    have t1 : (w3.alloc (.cells #[.int .i64 v0, .int .i64 v1, .int .i64 v2, .int .i64 v3, .int .i64 v4, .int .i64 v5] 26)).heap[w3.heap.size]? = _ := bk_new rfl
    replace t0 := bk_old (o' := .cells #[.int .i64 v0, .int .i64 v1, .int .i64 v2, .int .i64 v3, .int .i64 v4, .int .i64 v5] 26) (Clk.on t0 hb)
    clear hb hv hs F1 F2
    generalize hg : w3.heap.size = b3 at *
    clear hg
    generalize w3.alloc (.cells #[.int .i64 v0, .int .i64 v1, .int .i64 v2, .int .i64 v3, .int .i64 v4, .int .i64 v5] 26) = w4 at *
    clear w3
    have SN := Lib.hid (fun w => secs_ok w HV.out)
    rw [HS.out] at SN
    obtain ⟨q0, q1, q2, q3, q4, q5⟩ := cells6 t0
    obtain ⟨r0, r1, r2, r3, r4, r5⟩ := cells6 t1
    go_upto_region 8 with (first | (go_at_call 44; refine (SN.out _).mono ?_; rintro e w5 ⟨rfl, hb⟩))
    clear q0 q1 q2 q3 q4 q5 r0 r1 r2 r3 r4 r5 t1 SN
    replace bel := two_below bel hb bel.size
    replace t0 := Clk.on t0 hb
    clear hb
    by_cases hn1 : n + 1 < 253402300800
    · have F3 := Lib.hid (fun w => fromSecs_ok (n := n + 1) w (by omega) hn1)
      go_upto_region 9 with (first | (go_at_call 48; refine (F3.out _).mono ?_; rintro e w6 ⟨u0, u1, u2, u3, u4, u5, rfl, hb, hv, hs⟩))
      have hcmp := Lib.hid (show cmpT v0 v1 v2 v3 v4 v5 u0 u1 u2 u3 u4 u5 = -1 from by rw [secs_cmp HV.out hv, HS.out, hs]; exact cmpI_lt (by omega))
      replace bel := bel_al bel hb (.cells #[.int .i64 u0, .int .i64 u1, .int .i64 u2, .int .i64 u3, .int .i64 u4, .int .i64 u5] 26)
      have t1 : (w6.alloc (.cells #[.int .i64 u0, .int .i64 u1, .int .i64 u2, .int .i64 u3, .int .i64 u4, .int .i64 u5] 26)).heap[w6.heap.size]? = _ := bk_new rfl
      replace t0 := bk_old (o' := .cells #[.int .i64 u0, .int .i64 u1, .int .i64 u2, .int .i64 u3, .int .i64 u4, .int .i64 u5] 26) (Clk.on t0 hb)
      clear hb hv hs F3
      generalize hg : w6.heap.size = b6 at *
      clear hg
      generalize w6.alloc (.cells #[.int .i64 u0, .int .i64 u1, .int .i64 u2, .int .i64 u3, .int .i64 u4, .int .i64 u5] 26) = w7 at *
      clear w6
      have CN := Lib.hid (fun w => cmpT_any v0 v1 v2 v3 v4 v5 u0 u1 u2 u3 u4 u5 w)
      rw [hcmp.out] at CN
      obtain ⟨q0, q1, q2, q3, q4, q5⟩ := cells6 t0
      obtain ⟨r0, r1, r2, r3, r4, r5⟩ := cells6 t1
      clear t0 t1
      go_wp2_with (first | (go_at_call 46; refine (CN.out _).mono ?_; rintro e w8 ⟨rfl, hb⟩))
      go_ret
      exact ⟨rfl, two_below bel hb bel.size⟩
    · have F3 := Lib.hid (fun w => fromSecs_bad (n := n + 1) w (by omega))
      go_upto_region 9 with (first | (go_at_call 48; refine (F3.out _).mono ?_; rintro e w6 ⟨rfl, hb⟩))
      replace bel := bel_al bel hb (.cells #[.int .i64 0, .int .i64 0, .int .i64 0, .int .i64 0, .int .i64 0, .int .i64 0] 26)
      clear hb F3 t0
      go_wp2
      go_ret
      exact ⟨rfl, bel⟩
end Go.Proofs.Ytkkgcfllfhkoaaa
