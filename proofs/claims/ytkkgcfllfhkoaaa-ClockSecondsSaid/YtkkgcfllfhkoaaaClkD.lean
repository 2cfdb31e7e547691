/- Walk: the reference's encoding of a GeneralizedTime. -/
import Derived.Test.YtkkgcfllfhkoaaaClkC
set_option linter.unusedSimpArgs false
set_option linter.unusedVariables false
namespace Go.Proofs.Ytkkgcfllfhkoaaa.Clk
open Go.RowKit Kit

set_option maxHeartbeats 2000000 in
theorem refencGen_any (y m d h mi s : Int) (w : World) :
    Calls Try.prog 20 #[time y m d h mi s] w fun e w' => ∃ A n c, e = .returned (.tuple #[.slice A n c, .int .i64 (genCode y m d h mi s)]) ∧ Rd w' w'.heap.size A n (genBytes y m d h mi s) ∧ Below w.heap.size w w' := by
  cases hv : validB y m d h mi s
  · have C := Lib.hid (show genCode y m d h mi s = 8 from by unfold genCode; rw [hv]; simp)
    have B := Lib.hid (show genBytes y m d h mi s = [] from by unfold genBytes; rw [C.out]; simp)
    have HV := Lib.hid hv
    clear hv
    go_enter Try.func20, Try.ntmps20
    go_wp2_with (first | (go_at_call 22; refine (refvalid_any _ _ _ _ _ _ _).mono ?_; rw [HV.out]; rintro e w1 ⟨rfl, hb1⟩))
    go_ret2
    exact ⟨none, 0, 0, ret2 rfl (vint C.out.symm), by rw [B.out]; exact Rd.nil_, bel1 hb1⟩
  · have bd := valid_bd hv
    have HV := Lib.hid hv
    have C := Lib.hid (show genCode y m d h mi s = 0 from by unfold genCode; rw [if_pos hv])
    have B := Lib.hid (show genBytes y m d h mi s = genL y m d h mi s from by unfold genBytes; rw [if_pos C.out])
    clear hv
    go_enter Try.func20, Try.ntmps20
    go_wp2_with (first | (go_at_call 22; refine (refvalid_any _ _ _ _ _ _ _).mono ?_; rw [HV.out]; rintro e w1 ⟨rfl, hb1⟩; have tb := blk1 hb1; obtain ⟨q0, q1, q2, q3, q4, q5⟩ := cells6 tb))
    have HU := Lib.hid (show digL y 4 ++ tailL m d h mi s = genBytes y m d h mi s from by rw [B.out, digL_year4 bd.1 bd.2.1]; rfl)
    have kc := fun (w : World) (s : ByteArray) => run_bytes_of_string (P := Try.prog) w 9 28 5 s Try.underlying9 Try.underlying28 Try.underlying5
    have hsa := sb_append
    have hss := sb_size
    have HD := Lib.hid (fun (w : World) => digits_any 4 y w (by omega) (by omega) (by omega))
    have hl1 : (digL y 4).length = 4 := digL_len _ _
    have hl2 : (tailL m d h mi s).length = 11 := rfl
    go_region_with (first | (go_at_call 53; refine (HD.out _).mono ?_; rintro e w2 ⟨rfl, m2, rfl⟩) | (go_at_call 54; refine (reftail_any _ _ _ _ _ _ _ (by omega)).mono ?_; rintro e w3 ⟨rfl, hb3⟩; obtain ⟨p0, p1, p2, p3, p4, p5⟩ := cells6 ((hb3.block _ (TimeB_lt tb)).trans tb)))
    all_goals
      go_wp2
      go_ret2
      have hz1 : w.heap.size ≤ w1.heap.size := (bel1 hb1).size
      have hz3 : w1.heap.size ≤ w3.heap.size := hb3.size
      refine ⟨_, _, _, ret2 rfl (vint C.out.symm), ?_, ?_⟩
      · exact (((conv_rd w3 (digL y 4 ++ tailL m d h mi s) (grownCap w3 15 0 5) _).drew).more (by simp)).cast (by simp [hl1, hl2]) HU.out
      · exact (((below_drewN (bel1 hb1) (1 + m2)).trans (hb3.mono hz1)).alloc (by omega) _).drew
end Go.Proofs.Ytkkgcfllfhkoaaa.Clk
