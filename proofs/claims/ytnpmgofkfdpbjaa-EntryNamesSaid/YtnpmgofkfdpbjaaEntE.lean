/- Walks: MarshalDate of entry, where the date is valid. -/
import Derived.Test.YtnpmgofkfdpbjaaEntD
set_option linter.unusedSimpArgs false
set_option linter.unusedVariables false
namespace Go.Proofs.Ytnpmgofkfdpbjaa.Ent
open Go.RowKit Kit Tlv

set_option maxHeartbeats 2000000 in
theorem mdate_ok (y m d h mi s : Int) (w : World) (hc : Clk.genCode y m d h mi s = 0) (hl : (Clk.genBytes y m d h mi s).length = 15) :
    Calls Try.prog 38 #[Clk.time y m d h mi s] w (MarP w (encL 0 false 24 (Clk.genBytes y m d h mi s)) 0) := by
  have G := Lib.hid (fun w => Clk.encGen_any y m d h mi s w)
  rw [hc] at G
  have F3 := Lib.hid hl
  have F2 := Lib.hid (show encCode 0 24 (Clk.genBytes y m d h mi s).length = 0 from by rw [hl]; decide)
  generalize Clk.genBytes y m d h mi s = u at *
  clear hc hl
  go_enter Try.func38, Try.ntmps38
  go_wp2_with fail
  refine (G.out _).mono ?_
  rintro e w1 ⟨A1, n1, c1, rfl, o1, hb1⟩
  have bel := ((Below.refl w.heap.size w).alloc (Nat.le_refl _) (.cells #[.int .i64 y, .int .i64 m, .int .i64 d, .int .i64 h, .int .i64 mi, .int .i64 s] 28)).trans (hb1.mono (by simp))
  have z := bel.size
  have L := o1.rd.len
  obtain rfl : n1 = 15 := by rw [← L]; exact F3.out
  have W := Lib.hid (fun cc => wrap_any 0 24 false _ (cat_one (cc := cc) (t := 29) w1 _ (c := c1) o1.rd (Nat.le_refl _) rfl (by omega)) (by omega))
  clear o1 hb1 G L
  go_wp2_with fail
  refine (W.out _).mono ?_
  rintro e w3 ⟨A3, c3, rfl, o3, hb3⟩
  go_wp2_with fail
  go_ret2
  unfold MarP
  refine ⟨A3, c3, by rw [F2.out]; rfl, o3.mono (by simp; omega), (bel.alloc z _).trans (hb3.mono (by simp; omega))⟩
end Go.Proofs.Ytnpmgofkfdpbjaa.Ent
