/- The walks of the laws CursorNumbers and CursorCompares. -/
import Derived.Test.YtkkgcfllfhkoaaaCurM
set_option linter.unusedSimpArgs false
set_option linter.unusedVariables false
namespace Go.Proofs.Ytkkgcfllfhkoaaa
open Go.RowKit Kit Cur

set_option maxHeartbeats 1000000 in
theorem CursorCompares.walk (a0 : Option Addr) (len0 cap0 : Nat) (l0 : List UInt8) (a1 : Option Addr) (len1 cap1 : Nat) (l1 : List UInt8) (a2 : Option Addr) (len2 cap2 : Nat) (l2 : List UInt8) (w : World)
    (rd0 : Rd w w.heap.size a0 len0 l0) (hc0 : len0 ≤ cap0) (hm0 : cap0 ≤ maxLen) (rd1 : Rd w w.heap.size a1 len1 l1) (hc1 : len1 ≤ cap1) (hm1 : cap1 ≤ maxLen) (rd2 : Rd w w.heap.size a2 len2 l2) (hc2 : len2 ≤ cap2) (hm2 : cap2 ≤ maxLen) :
    Calls Try.prog 7 #[.slice a0 len0 cap0, .slice a1 len1 cap1, .slice a2 len2 cap2] w fun e w' => e = .returned (.bool true) ∧ Below w.heap.size w w' := by
  have M0 : len0 ≤ maxLen := by omega
  have M1 : len1 ≤ maxLen := by omega
  have M2 : len2 ≤ maxLen := by omega
  clear hc0 hc1 hc2 hm0 hm1 hm2
  by_cases hbig : 2000 < len0 ∨ 2000 < len1 ∨ 2000 < len2
  · by_cases g0 : 2000 < len0 <;> by_cases g1 : 2000 < len1 <;> by_cases g2 : 2000 < len2
    all_goals first
      | (exfalso; omega)
      | (clear hbig
         go_enter Try.func7, Try.ntmps7
         go_wp2_with fail
         refine (awake_any _).mono ?_
         rintro e w1 ⟨rfl, hb1⟩
         go_wp2_with fail
         refine (awake_any _).mono ?_
         rintro e w2 ⟨rfl, hb2⟩
         go_wp2_with fail
         go_ret
         exact ⟨rfl, hb1.trans (hb2.mono hb1.size)⟩)
  · have g0 : ¬ 2000 < len0 := by omega
    have g1 : ¬ 2000 < len1 := by omega
    have g2 : ¬ 2000 < len2 := by omega
    clear hbig
    go_enter Try.func7, Try.ntmps7
    go_wp2_with fail
    refine (awake_any _).mono ?_
    rintro e w1 ⟨rfl, hb1⟩
    have q0 := rd0.past hb1
    have q1 := rd1.past hb1
    have q2 := rd2.past hb1
    clear rd0 rd1 rd2
    go_wp2_with fail
    refine (compare_any _ _ _ _ _ _ _ _ _ q0 q1 M0 M1).mono ?_
    rintro e w2 ⟨rfl, rfl⟩
    go_wp2_with fail
    refine (compare_any _ _ _ _ _ _ _ _ _ q1 q2 M1 M2).mono ?_
    rintro e w2 ⟨rfl, rfl⟩
    go_wp2_with fail
    refine (compare_any _ _ _ _ _ _ _ _ _ q0 q2 M0 M2).mono ?_
    rintro e w2 ⟨rfl, rfl⟩
    go_wp2_with fail
    have x0 : -1 ≤ cmpL l0 l1 := by rcases cmpL_three l0 l1 with h | h | h <;> omega
    have x1 : cmpL l0 l1 ≤ 1 := by rcases cmpL_three l0 l1 with h | h | h <;> omega
    have N := Lib.hid (cmpL_neg l0 l1)
    have E := Lib.hid (show eqB l0 l1 = (cmpL l0 l1 == 0) from by
      unfold eqB; rw [Bool.eq_iff_iff]; simp [cmpL_eq])
    have O : 0 < cmpL l0 l1 ∨ (cmpL l0 l1 ≤ 0 ∧ 0 < cmpL l1 l2) ∨ (cmpL l0 l1 ≤ 0 ∧ cmpL l1 l2 ≤ 0 ∧ cmpL l0 l2 ≤ 0) := by
      have := cmpL_order l0 l1 l2; omega
    refine (refcompare_any _ _ _ _ _ _ _ _ _ q0 q1 M0 M1).mono ?_
    rintro e w2 ⟨rfl, m2, rfl⟩
    go_wp2_with fail
    refine (compare_any _ _ _ _ _ _ _ _ _ (q1.drewN m2) (q0.drewN m2) M1 M0).mono ?_
    rw [N.out]
    rintro e w2 ⟨rfl, rfl⟩
    go_wp2_with fail
    refine (bytes_any _ _ _ _ _ _ _ _ _ (q0.drewN m2) (q1.drewN m2)).mono ?_
    rw [E.out]
    rintro e w2 ⟨rfl, rfl⟩
    rcases O with o1 | ⟨o1, o2⟩ | ⟨o1, o2, o3⟩
    all_goals
      go_wp2_with fail
      go_ret
      exact ⟨ret_bool (by simp [*]), (by repeat' (first | (with_reducible exact Below.refl _ _) | (with_reducible assumption) | (with_reducible refine below_drewN ?_ _) | (with_reducible refine Below.drew ?_) | (with_reducible refine Below.alloc ?_ ?_ _) | (with_reducible refine Below.setCell ?_ ?_ _) | go_size))⟩

set_option maxHeartbeats 1000000 in
theorem CursorNumbers.walk (a0 : Option Addr) (len0 cap0 : Nat) (l0 : List UInt8) (n : Int) (w : World)
    (rd0 : Rd w w.heap.size a0 len0 l0) (hc0 : len0 ≤ cap0) (hm0 : cap0 ≤ maxLen) (bd : 0 ≤ n ∧ n ≤ 18446744073709551615) :
    Calls Try.prog 6 #[.slice a0 len0 cap0, .int .u64 n] w fun e w' => e = .returned (.bool true) ∧ Below w.heap.size w w' := by
  obtain ⟨v, rfl⟩ := Int.eq_ofNat_of_zero_le bd.1
  have hv : v < W64 := by unfold W64; omega
  have HV := Lib.hid hv
  clear hv bd
  have M0 : len0 ≤ maxLen := by omega
  by_cases hbig : 2000 < len0
  · go_enter Try.func6, Try.ntmps6
    go_wp2_with fail
    refine (awake_any _).mono ?_
    rintro e w1 ⟨rfl, hb1⟩
    go_wp2_with fail
    refine (awake_any _).mono ?_
    rintro e w2 ⟨rfl, hb2⟩
    go_wp2_with fail
    go_ret
    exact ⟨rfl, hb1.trans (hb2.mono hb1.size)⟩
  · go_enter Try.func6, Try.ntmps6
    go_wp2_with fail
    refine (awake_any _).mono ?_
    rintro e w1 ⟨rfl, hb1⟩
    have q0 := rd0.past hb1
    clear rd0
    go_wp2_with fail
    refine (uint_any _ _ _ _ _ q0 M0).mono ?_
    rintro e w2 ⟨rfl, rfl⟩
    go_wp2_with fail
    refine (refuint_any _ _ _ _ _ q0 hc0 hm0).mono ?_
    rintro e w2 ⟨rfl, rfl⟩
    go_wp2_with fail
    refine (minimal_any _ _ HV.out).mono ?_
    rintro e w3 ⟨A3, c3, rfl, ho3, hb3⟩
    have r3 := ho3.rd
    have L3 := (minL_len v).2
    go_wp2_with fail
    refine (uint_any _ _ _ _ _ r3 (by unfold maxLen; omega)).mono ?_
    have F := Lib.hid (uint_yes (l := minL v) (by rw [be_minL HV.out]; exact HV.out))
    have B := Lib.hid (be_minL HV.out)
    rw [F.out.1, F.out.2, B.out]
    rintro e w4 ⟨rfl, rfl⟩
    have hb4 := hb1.trans (hb3.mono hb1.size)
    clear hb1 hb3
    go_wp2_with fail
    refine (refminimal_any _ _ HV.out).mono ?_
    rintro e w5 ⟨A5, c5, rfl, ho5, hb5⟩
    have r5 := ho5.rd
    have r3' := r3.past hb5
    have hb6 := hb4.trans (hb5.mono hb4.size)
    clear hb4 hb5 ho3 ho5 r3
    go_wp2_with fail
    refine (bytes_any _ _ _ _ _ _ _ _ _ r3' r5).mono ?_
    rw [eqB_self]
    rintro e w6 ⟨rfl, rfl⟩
    go_wp2_with fail
    go_ret
    exact ⟨ret_bool (by simp), hb6⟩
end Go.Proofs.Ytkkgcfllfhkoaaa
