/- The walk of cretulalaw08.awake. -/
import Derived.Test.YtkkgcfllfhkoaaaClkM
import Derived.Test.YtkkgcfllfhkoaaaClkO
import Derived.Lib.SmallJoins
set_option linter.unusedSimpArgs false
set_option linter.unusedVariables false
namespace Go.Proofs.Ytkkgcfllfhkoaaa.Clk
open Go.RowKit Kit

theorem Rd.litM (X : World) (xs : List Int) (l : List UInt8) (S n : Nat) (fr : Nat × Nat) (hS : X.heap.size = S) (hxs : ∀ x ∈ xs, 0 ≤ x ∧ x ≤ 255) (hl : xs.map ofI = l) (hn : xs.length = n) :
    Rd (X.alloc (.cells (xs.map (Value.int .u8)).toArray 5 fr)) (S + 1) (some ⟨S, 0, none⟩) n l := by
  have h := Rd.litE X xs l S n hS hxs hl hn
  refine ⟨h.len, fun h0 => ?_⟩
  obtain ⟨ad, e, hb, hc⟩ := h.all_ h0
  refine ⟨ad, e, hb, fun k hk => ?_⟩
  have := hc k hk
  injection e with e
  subst e
  subst hS
  rw [add_plain, Nat.zero_add] at this ⊢
  rw [cell_of_row _ X.heap.size k _ _ _ (heap_alloc_new X _)] at this ⊢
  exact this

theorem two_below {w w1 w2 : World} {B : Nat} (h1 : Below B w w1) (h2 : Below w1.heap.size w1 w2) (hB : B ≤ w1.heap.size) : Below B w w2 := h1.trans (h2.mono hB)

set_option maxHeartbeats 2000000 in
theorem awake8_any (w : World) : Calls Try.prog 13 #[] w fun e w' => e = .returned (.bool true) ∧ Below w.heap.size w w' := by
  have E1 := Lib.hid (fun w => encUTC_any 2000 1 1 0 0 0 w)
  rw [show utcCode 2000 1 1 0 0 0 = 0 from by decide, show utcBytes 2000 1 1 0 0 0 = [48, 48, 48, 49, 48, 49, 48, 48, 48, 48, 48, 48, 90] from by decide] at E1
  have E2 := Lib.hid (fun w => encUTC_any 2050 1 1 0 0 0 w)
  rw [show utcCode 2050 1 1 0 0 0 = 9 from by decide] at E2
  have D1 := Lib.hid (fun w (A : Option Addr) (hr : Rd w w.heap.size A 15 [50, 48, 50, 51, 48, 50, 50, 57, 48, 48, 48, 48, 48, 48, 90]) => decGen_no (c := 15) w hr (by omega) (by omega) (by decide))
  have S1 := Lib.hid (fun w => secs_ok (y := 2000) (m := 1) (d := 1) (h := 0) (mi := 0) (s := 0) w (by decide))
  rw [show secs 2000 1 1 0 0 0 = 946684800 from by decide] at S1
  have S2 := Lib.hid (fun w => secs_ok (y := 1970) (m := 1) (d := 1) (h := 0) (mi := 0) (s := 0) w (by decide))
  rw [show secs 1970 1 1 0 0 0 = 0 from by decide] at S2
  have V1 := Lib.hid (fun w => valid_any 2000 1 1 0 0 0 w)
  rw [show validB 2000 1 1 0 0 0 = true from by decide] at V1
  go_enter Try.func13, Try.ntmps13
  go_upto_region 3 with (first | (go_at_call 17; refine (E1.out _).mono ?_; rintro e w1 ⟨A, n, c, rfl, ho1, hb1⟩))
  have tb1 := blk1 hb1
  have bel1 := bel1 hb1
  obtain rfl : 13 = n := ho1.len
  have rd1 := ho1.rd
  have z1 : w.heap.size < w1.heap.size := Blk_lt tb1
  clear hb1 ho1
  go_upto_region 4 with (first | (go_at_call 17; refine (E2.out _).mono ?_; rintro e w2 ⟨A2, n2, c2, rfl, ho2, hb2⟩))
  have tb2 := (hb2.block _ z1).trans tb1
  have bel2 := two_below bel1 hb2 (by omega)
  have rd2 := rd1.past hb2
  have z2 : w.heap.size < w2.heap.size := Blk_lt tb2
  clear tb1 bel1 rd1 z1 hb2 ho2
  have hcv := Go.Joins.run_convert_bytes_const_at (P := Try.prog) w2 28 5 #[.int .u8 50, .int .u8 48, .int .u8 50, .int .u8 51, .int .u8 48, .int .u8 50, .int .u8 50, .int .u8 57, .int .u8 48, .int .u8 48, .int .u8 48, .int .u8 48, .int .u8 48, .int .u8 48, .int .u8 90] 15 15 w2.heap.size rfl Try.underlying28 Try.underlying5
  have L3 := Lib.hid (Rd.litM w2 [50, 48, 50, 51, 48, 50, 50, 57, 48, 48, 48, 48, 48, 48, 90] [50, 48, 50, 51, 48, 50, 50, 57, 48, 48, 48, 48, 48, 48, 90] w2.heap.size 15 (15, 16) rfl (by decide) (by decide) rfl)
  go_upto_region 5 with (first | (go_at_call 24; refine (D1.out _ _ (L3.out.more (by simp))).mono ?_; rintro e w3 ⟨rfl, hb3⟩))
  have bb3 := Kit.bel1 hb3
  have tb3 := (bb3.block _ z2).trans tb2
  have bel3 := two_below bel2 bb3 (by omega)
  have rd3 := rd2.past bb3
  have z3 : w.heap.size < w3.heap.size := Blk_lt tb3
  clear tb2 bel2 rd2 z2 hb3 bb3 hcv L3
  obtain ⟨q0, q1, q2, q3, q4, q5⟩ := cells6 tb3
  go_upto_region 6 with (first | (go_at_call 44; refine (S1.out _).mono ?_; rintro e w4 ⟨rfl, hb4⟩))
  clear q0 q1 q2 q3 q4 q5
  have bb4 := Kit.bel1 hb4
  have tb4 := (bb4.block _ z3).trans tb3
  have bel4 := two_below bel3 bb4 (by omega)
  have rd4 := rd3.past bb4
  have z4 : w.heap.size < w4.heap.size := Blk_lt tb4
  clear tb3 bel3 rd3 z3 hb4 bb4
  go_upto_region 7 with (first | (go_at_call 44; refine (S2.out _).mono ?_; rintro e w5 ⟨rfl, hb5⟩))
  have tb5 := (hb5.block _ z4).trans tb4
  have bel5 := two_below bel4 hb5 (by omega)
  have rd5 := rd4.past hb5
  have z5 : w.heap.size < w5.heap.size := Blk_lt tb5
  clear tb4 bel4 rd4 z4 hb5
  have hst := run_str (P := Try.prog) (c := c) rd5 28 5 9 Try.underlying28 Try.underlying5 Try.underlying9
  obtain ⟨q0, q1, q2, q3, q4, q5⟩ := cells6 tb5
  clear rd5
  go_wp2_with (first | (go_at_call 16; refine (V1.out _).mono ?_; rintro e w6 ⟨rfl, hb6⟩))
  go_ret
  exact ⟨rfl, two_below bel5 hb6 (by omega)⟩
end Go.Proofs.Ytkkgcfllfhkoaaa.Clk
