/- The walk of TlvIdentifiers. -/
import Derived.Test.YtjdnjmggpomhcaaTlvJ
import Derived.Test.YtjdnjmggpomhcaaPlTlvC
set_option linter.unusedSimpArgs false
set_option linter.unusedVariables false
namespace Go.Proofs.Ytjdnjmggpomhcaa
open Go.RowKit Kit Tlv

set_option maxRecDepth 100000 in
set_option maxHeartbeats 4000000 in
theorem TlvIdentifiers.walk (c n : Int) (b : Bool) (x : Int) (w : World) (bd : 0 ≤ x ∧ x ≤ 255) :
    Calls Try.prog 7 #[.agg #[.int .i64 c, .int .i64 n], .bool b, .int .u8 x] w fun e w' => e = .returned (.bool true) ∧ Below w.heap.size w w' := by
  obtain ⟨x0, x1⟩ := bd
  have I1 := Lib.hid (fun w => ident_any c n b w)
  have I2 := Lib.hid (fun w => refident_any c n b w)
  have J1 := Lib.hid (fun w => readid_any x w x0 x1)
  have J2 := Lib.hid (fun w => refreadid_any x w x0 x1)
  have K1 := Lib.hid (fun w => ident_any (ridC x) (ridN x) (ridB x) w)
  have P := Lib.hid (fun h => id_back x0 x1 h)
  generalize idByte c b n = y at *
  generalize idCode c n = z at *
  generalize ridC x = rc at *
  generalize ridB x = rb at *
  generalize ridN x = rn at *
  generalize ridE x = re at *
  by_cases hz : re = 0
  · obtain ⟨p1, p2⟩ := P.out hz
    rw [p1, p2] at K1
    subst hz
    clear p1 p2 P
    go_enter Try.func7, Try.ntmps7
    go_upto_region 3 with (first | (go_at_call 35; refine (awake2_any _).mono ?_; rintro e w1 ⟨rfl, hb1⟩))
    have bel := Kit.bel1 hb1
    have hbx := (hb1.block w.heap.size (by simp)).trans (heap_alloc_new w _)
    obtain ⟨q0, q1⟩ := cells2 hbx
    clear hb1 hbx
    go_wp2_with (first
      | (go_at_call 36; (with_reducible refine Calls.mono (I1.out _) ?_); rintro e w' ⟨rfl, rfl⟩)
      | (go_at_call 36; (with_reducible refine Calls.mono (K1.out _) ?_); rintro e w' ⟨rfl, rfl⟩)
      | (go_at_call 37; refine (I2.out _).mono ?_; rintro e w' ⟨rfl, rfl⟩)
      | (go_at_call 38; refine (J1.out _).mono ?_; rintro e w' ⟨rfl, rfl⟩)
      | (go_at_call 39; refine (J2.out _).mono ?_; rintro e w' ⟨rfl, rfl⟩))
    go_ret
    exact ⟨(by first | rfl | exact ret_bool (by simp)), bel⟩
  · clear P K1
    go_enter Try.func7, Try.ntmps7
    go_upto_region 3 with (first | (go_at_call 35; refine (awake2_any _).mono ?_; rintro e w1 ⟨rfl, hb1⟩))
    have bel := Kit.bel1 hb1
    have hbx := (hb1.block w.heap.size (by simp)).trans (heap_alloc_new w _)
    obtain ⟨q0, q1⟩ := cells2 hbx
    clear hb1 hbx
    go_wp2_with (first
      | (go_at_call 36; refine (I1.out _).mono ?_; rintro e w' ⟨rfl, rfl⟩)
      | (go_at_call 37; refine (I2.out _).mono ?_; rintro e w' ⟨rfl, rfl⟩)
      | (go_at_call 38; refine (J1.out _).mono ?_; rintro e w' ⟨rfl, rfl⟩)
      | (go_at_call 39; refine (J2.out _).mono ?_; rintro e w' ⟨rfl, rfl⟩))
    go_ret
    exact ⟨(by first | rfl | exact ret_bool (by simp)), bel⟩
end Go.Proofs.Ytjdnjmggpomhcaa
