/- The walk of ClockEncodes. -/
import Derived.Test.YtkkgcfllfhkoaaaClkR
import Derived.Test.YtkkgcfllfhkoaaaCurA
import Derived.Test.YtkkgcfllfhkoaaaQB
set_option linter.unusedSimpArgs false
set_option linter.unusedVariables false
namespace Go.Proofs.Ytkkgcfllfhkoaaa
open Go.RowKit Kit Clk Go.Sort

theorem Cur.eqB_same {l : List UInt8} : Cur.eqB l l = true := by simp [Cur.eqB]

/-- what the clock decodes of its own octets -/
theorem Clk.decU_back {A : Option Addr} {n c : Nat} (y m d h mi s : Int) (w : World) (hr : Rd w w.heap.size A n (utcBytes y m d h mi s)) (hc : n ≤ c) :
    Calls Try.prog 23 #[.slice A n c] w fun e w' => ∃ u0 u1 u2 u3 u4 u5 k, e = .returned (.tuple #[time u0 u1 u2 u3 u4 u5, .int .i64 k]) ∧ Below w.heap.size w w' ∧ (utcCode y m d h mi s = 0 → u0 = y ∧ u1 = m ∧ u2 = d ∧ u3 = h ∧ u4 = mi ∧ u5 = s ∧ k = 0) := by
  by_cases hz : utcCode y m d h mi s = 0
  · have hb : utcBytes y m d h mi s = utcL y m d h mi s := by unfold utcBytes; rw [if_pos hz]
    rw [hb] at hr
    obtain ⟨h0, h1, h2, h3, h4, h5, h6⟩ := utc_back hz
    refine (decUTC_ok w hr hc h0).mono fun e w' he => ?_
    rw [h1, h2, h3, h4, h5, h6] at he
    exact ⟨y, m, d, h, mi, s, 0, he.1, he.2, fun _ => ⟨rfl, rfl, rfl, rfl, rfl, rfl, rfl⟩⟩
  · have hb : utcBytes y m d h mi s = [] := by unfold utcBytes; rw [if_neg hz]
    rw [hb] at hr
    have hn : 0 = n := hr.len
    refine (decUTC_no w hr hc (by omega) (by decide)).mono fun e w' he => ?_
    exact ⟨0, 0, 0, 0, 0, 0, 6, he.1, he.2, fun h => absurd h hz⟩
theorem Clk.decG_back {A : Option Addr} {n c : Nat} (y m d h mi s : Int) (w : World) (hr : Rd w w.heap.size A n (genBytes y m d h mi s)) (hc : n ≤ c) :
    Calls Try.prog 24 #[.slice A n c] w fun e w' => ∃ u0 u1 u2 u3 u4 u5 k, e = .returned (.tuple #[time u0 u1 u2 u3 u4 u5, .int .i64 k]) ∧ Below w.heap.size w w' ∧ (genCode y m d h mi s = 0 → u0 = y ∧ u1 = m ∧ u2 = d ∧ u3 = h ∧ u4 = mi ∧ u5 = s ∧ k = 0) := by
  by_cases hz : genCode y m d h mi s = 0
  · have hb : genBytes y m d h mi s = genL y m d h mi s := by unfold genBytes; rw [if_pos hz]
    rw [hb] at hr
    obtain ⟨h0, h1, h2, h3, h4, h5, h6⟩ := gen_back hz
    refine (decGen_ok w hr hc h0).mono fun e w' he => ?_
    rw [h1, h2, h3, h4, h5, h6] at he
    exact ⟨y, m, d, h, mi, s, 0, he.1, he.2, fun _ => ⟨rfl, rfl, rfl, rfl, rfl, rfl, rfl⟩⟩
  · have hb : genBytes y m d h mi s = [] := by unfold genBytes; rw [if_neg hz]
    rw [hb] at hr
    have hn : 0 = n := hr.len
    refine (decGen_no w hr hc (by omega) (by decide)).mono fun e w' he => ?_
    exact ⟨0, 0, 0, 0, 0, 0, 6, he.1, he.2, fun h => absurd h hz⟩

set_option maxRecDepth 100000 in
set_option maxHeartbeats 4000000 in
theorem ClockEncodes.walk (y m d h mi s : Int) (W : World) :
    Calls Try.prog 4 #[time y m d h mi s] W fun e w' => e = .returned (.bool true) ∧ Below W.heap.size W w' := by
  have E1 := Lib.hid (fun w => encUTC_any y m d h mi s w)
  have E2 := Lib.hid (fun w => refencUTC_any y m d h mi s w)
  have E3 := Lib.hid (fun w => encGen_any y m d h mi s w)
  have E4 := Lib.hid (fun w => refencGen_any y m d h mi s w)
  have D1 := Lib.hid (fun A n c w => decU_back (A := A) (n := n) (c := c) y m d h mi s w)
  have D2 := Lib.hid (fun A n c w => decG_back (A := A) (n := n) (c := c) y m d h mi s w)
  have V1 := Lib.hid (fun w => valid_any y m d h mi s w)
  have V2 := Lib.hid (fun w => refvalid_any y m d h mi s w)
  generalize utcBytes y m d h mi s = lu at *
  generalize genBytes y m d h mi s = lg at *
  generalize utcCode y m d h mi s = cu at *
  generalize genCode y m d h mi s = cg at *
  generalize validB y m d h mi s = vb at *
  go_enter Try.func4, Try.ntmps4
  go_upto_region 3 with (first | (go_at_call 13; refine (awake8_any _).mono ?_; rintro e w0 ⟨rfl, hb0⟩))
  have tb0 := blk1 hb0
  have bel0 := Kit.bel1 hb0
  have z0 : W.heap.size < w0.heap.size := Blk_lt tb0
  clear hb0
  obtain ⟨q0, q1, q2, q3, q4, q5⟩ := cells6 tb0
  go_upto_region 4 with (first | (go_at_call 17; refine (E1.out _).mono ?_; rintro e w1 ⟨A1, n1, c1, rfl, ho1, hb1⟩))
  clear q0 q1 q2 q3 q4 q5
  have tb1 := (hb1.block _ z0).trans tb0
  have bel1 := two_below bel0 hb1 (by omega)
  have z1 : W.heap.size < w1.heap.size := Blk_lt tb1
  have hc1 := ho1.cap
  have rA1 := ho1.rd
  clear tb0 bel0 z0 hb1 ho1
  obtain ⟨q0, q1, q2, q3, q4, q5⟩ := cells6 tb1
  go_upto_region 5 with (first | (go_at_call 18; refine (E2.out _).mono ?_; rintro e w2 ⟨A2, n2, c2, rfl, rB2, hb2⟩))
  clear q0 q1 q2 q3 q4 q5
  have tb2 := (hb2.block _ z1).trans tb1
  have bel2 := two_below bel1 hb2 (by omega)
  have z2 : W.heap.size < w2.heap.size := Blk_lt tb2
  have rA2 := rA1.past hb2
  clear tb1 bel1 z1 hb2 rA1
  obtain ⟨q0, q1, q2, q3, q4, q5⟩ := cells6 tb2
  go_upto_region 6 with (first | (go_at_call 19; refine (E3.out _).mono ?_; rintro e w3 ⟨A3, n3, c3, rfl, ho3, hb3⟩))
  clear q0 q1 q2 q3 q4 q5
  have tb3 := (hb3.block _ z2).trans tb2
  have bel3 := two_below bel2 hb3 (by omega)
  have z3 : W.heap.size < w3.heap.size := Blk_lt tb3
  have rA3 := rA2.past hb3
  have rB3 := rB2.past hb3
  have hc3 := ho3.cap
  have rC3 := ho3.rd
  clear tb2 bel2 z2 hb3 rA2 rB2 ho3
  obtain ⟨q0, q1, q2, q3, q4, q5⟩ := cells6 tb3
  go_upto_region 7 with (first | (go_at_call 20; refine (E4.out _).mono ?_; rintro e w4 ⟨A4, n4, c4, rfl, rD4, hb4⟩))
  clear q0 q1 q2 q3 q4 q5
  have tb4 := (hb4.block _ z3).trans tb3
  have bel4 := two_below bel3 hb4 (by omega)
  have z4 : W.heap.size < w4.heap.size := Blk_lt tb4
  have rA4 := rA3.past hb4
  have rB4 := rB3.past hb4
  have rC4 := rC3.past hb4
  clear tb3 bel3 z3 hb4 rA3 rB3 rC3
  have X1 := Lib.hid (fun dd os => Cur.bytes_any A1 A2 n1 c1 n2 c2 _ _ _ (rA4.regrown dd os) (rB4.regrown dd os))
  have X2 := Lib.hid (fun dd os => Cur.bytes_any A3 A4 n3 c3 n4 c4 _ _ _ (rC4.regrown dd os) (rD4.regrown dd os))
  rw [Cur.eqB_same] at X1 X2
  obtain ⟨q0, q1, q2, q3, q4, q5⟩ := six_regrown (cells6 tb4)
  refine wp_region_quiet_below (by kernel_rfl) (by kernel_rfl) ?_; (repeat (go_big_quiet_step (first | (go_at_call 21; exact regrown_same (X1.out _ _)) | (go_at_call 21; exact regrown_same (X2.out _ _)) | (go_at_call 16; exact Calls.regrown_of (V1.out _)) | (go_at_call 22; exact Calls.regrown_of (V2.out _))))); refine wpQuiet_nil ?_; intro wq hq; replace hq := Kit.of_regrown hq
  clear q0 q1 q2 q3 q4 q5 X1 X2
  have tb5 := (hq.block _ z4).trans tb4
  have bel5 := two_below bel4 hq (by omega)
  have z5 : W.heap.size < wq.heap.size := Blk_lt tb5
  have rA5 := rA4.past hq
  have rC5 := rC4.past hq
  clear tb4 bel4 z4 hq rA4 rB4 rC4 rD4
  go_upto_region 10 with (first | (go_at_call 23; refine (D1.out _ _ _ _ rA5 hc1).mono ?_; rintro e w6 ⟨u0, u1, u2, u3, u4, u5, ku, rfl, hb6, hu⟩))
  have tb6 := bk_old (o' := .cells #[.int .i64 u0, .int .i64 u1, .int .i64 u2, .int .i64 u3, .int .i64 u4, .int .i64 u5] 26) ((hb6.block _ z5).trans tb5)
  have ub6 : (w6.alloc (.cells #[.int .i64 u0, .int .i64 u1, .int .i64 u2, .int .i64 u3, .int .i64 u4, .int .i64 u5] 26)).heap[w6.heap.size]? = _ := bk_new rfl
  have bel6 := (two_below bel5 hb6 (by omega)).alloc (by have := hb6.size; omega) (.cells #[.int .i64 u0, .int .i64 u1, .int .i64 u2, .int .i64 u3, .int .i64 u4, .int .i64 u5] 26)
  have rC6 := ((rC5.past hb6).alloc (Nat.le_refl _) (.cells #[.int .i64 u0, .int .i64 u1, .int .i64 u2, .int .i64 u3, .int .i64 u4, .int .i64 u5] 26)).more (B' := (w6.alloc (.cells #[.int .i64 u0, .int .i64 u1, .int .i64 u2, .int .i64 u3, .int .i64 u4, .int .i64 u5] 26)).heap.size) (by simp)
  clear tb5 bel5 z5 hb6 rA5 rC5
  generalize hg : w6.heap.size = b6 at *
  clear hg
  generalize w6.alloc (.cells #[.int .i64 u0, .int .i64 u1, .int .i64 u2, .int .i64 u3, .int .i64 u4, .int .i64 u5] 26) = w7 at *
  clear w6
  go_upto_region 11 with (first | (go_at_call 24; refine (D2.out _ _ _ _ rC6 hc3).mono ?_; rintro e w8 ⟨v0, v1, v2, v3, v4, v5, kg, rfl, hb8, hv⟩))
  have tb8 := bk_old (o' := .cells #[.int .i64 v0, .int .i64 v1, .int .i64 v2, .int .i64 v3, .int .i64 v4, .int .i64 v5] 26) ((hb8.block _ (Blk_lt tb6)).trans tb6)
  have ub8 := bk_old (o' := .cells #[.int .i64 v0, .int .i64 v1, .int .i64 v2, .int .i64 v3, .int .i64 v4, .int .i64 v5] 26) ((hb8.block _ (Blk_lt ub6)).trans ub6)
  have vb8 : (w8.alloc (.cells #[.int .i64 v0, .int .i64 v1, .int .i64 v2, .int .i64 v3, .int .i64 v4, .int .i64 v5] 26)).heap[w8.heap.size]? = _ := bk_new rfl
  have bel8 := (two_below bel6 hb8 bel6.size).alloc (by have := hb8.size; have := bel6.size; omega) (.cells #[.int .i64 v0, .int .i64 v1, .int .i64 v2, .int .i64 v3, .int .i64 v4, .int .i64 v5] 26)
  clear tb6 ub6 bel6 rC6 hb8
  generalize hg : w8.heap.size = b8 at *
  clear hg
  generalize w8.alloc (.cells #[.int .i64 v0, .int .i64 v1, .int .i64 v2, .int .i64 v3, .int .i64 v4, .int .i64 v5] 26) = w9 at *
  clear w8
  obtain ⟨q0, q1, q2, q3, q4, q5⟩ := cells6 tb8
  obtain ⟨r0, r1, r2, r3, r4, r5⟩ := cells6 ub8
  obtain ⟨s0, s1, s2, s3, s4, s5⟩ := cells6 vb8
  clear tb8 ub8 vb8 E1 E2 E3 E4 D1 D2 V1 V2
  by_cases hcu : cu = 0 <;> by_cases hcg : cg = 0
  · obtain ⟨rfl, rfl, rfl, rfl, rfl, rfl, rfl⟩ := hu hcu
    obtain ⟨rfl, rfl, rfl, rfl, rfl, rfl, rfl⟩ := hv hcg
    clear hu hv
    go_wp2
    go_ret
    exact ⟨rfl, bel8⟩
  · obtain ⟨rfl, rfl, rfl, rfl, rfl, rfl, rfl⟩ := hu hcu
    clear hu hv
    go_wp2
    go_ret
    exact ⟨rfl, bel8⟩
  · obtain ⟨rfl, rfl, rfl, rfl, rfl, rfl, rfl⟩ := hv hcg
    clear hu hv
    go_wp2
    go_ret
    exact ⟨rfl, bel8⟩
  · clear hu hv
    go_wp2
    go_ret
    exact ⟨rfl, bel8⟩
end Go.Proofs.Ytkkgcfllfhkoaaa
