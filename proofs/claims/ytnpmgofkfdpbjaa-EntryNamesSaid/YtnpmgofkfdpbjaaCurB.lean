/- Walks over the reference of the package cursor: comparison, numbers. -/
import Derived.Test.YtnpmgofkfdpbjaaCurA
import Derived.Test.YtnpmgofkfdpbjaaBit
set_option linter.unusedSimpArgs false
set_option linter.unusedVariables false
namespace Go.Proofs.Ytnpmgofkfdpbjaa.Cur
open Go.RowKit Kit

set_option maxHeartbeats 1000000 in
theorem refcompare_any (A1 A2 : Option Addr) (n1 c1 n2 c2 : Nat) (l1 l2 : List UInt8) (w : World) {B1 B2 : Nat} (h1 : Rd w B1 A1 n1 l1) (h2 : Rd w B2 A2 n2 l2) (m1 : n1 ≤ maxLen) (m2 : n2 ≤ maxLen) :
    Calls Try.prog 174 #[.slice A1 n1 c1, .slice A2 n2 c2] w fun e w' => e = .returned (.int .i64 (cmpL l1 l2)) ∧ ∃ m, w' = w.drewN m := by
  have L1 := Lib.hid h1.len
  have L2 := Lib.hid h2.len
  unfold maxLen at m1 m2
  go_enter Try.func174, Try.ntmps174
  go_wp2
  go_loopw [5] (fun i wr => ∃ k : Nat, k ≤ n1 ∧ k ≤ n2 ∧ i = .int .i64 k ∧ (∃ m, wr = w.drewN m) ∧ Hid (cmpL (l1.drop k) (l2.drop k) = cmpL l1 l2)) (fun i _ => n1 - (intOf i).toNat)
  case atStart => exact ⟨0, Nat.zero_le _, Nat.zero_le _, rfl, (by first | exact ⟨0, rfl⟩ | exact ⟨_, rfl⟩ | (simp only [World.drewN_drewN]; exact ⟨_, rfl⟩)), Lib.hid (by simp)⟩
  case round =>
    obtain ⟨k, hk1, hk2, rfl, ⟨m, rfl⟩, HC⟩ := hrel
    by_cases hlt : k < n1
    · by_cases hlt2 : k < n2
      · obtain ⟨a1, rfl, _, hc1⟩ := h1.at_ hlt
        obtain ⟨a2, rfl, _, hc2⟩ := h2.at_ hlt2
        have b1 := bt_lo l1 k
        have b2 := bt_hi l1 k
        have b3 := bt_lo l2 k
        have b4 := bt_hi l2 k
        have S := Lib.hid (cmp_step (a := l1) (b := l2) (k := k) (by rw [L1.out]; exact hlt) (by rw [L2.out]; exact hlt2))
        by_cases t1 : bt l1 k < bt l2 k
        · go_wp2
          go_quiet (fail)
          go_wp2
          go_ret
          exact ⟨ret_int (by rw [← HC.out, S.out, if_pos (by omega)]), (by first | exact ⟨0, rfl⟩ | exact ⟨_, rfl⟩ | (simp only [World.drewN_drewN]; exact ⟨_, rfl⟩))⟩
        · by_cases t2 : bt l2 k < bt l1 k
          · go_wp2
            go_quiet (fail)
            go_wp2
            go_quiet (fail)
            go_wp2
            go_ret
            exact ⟨ret_int (by rw [← HC.out, S.out, if_neg (by omega), if_pos (by omega)]), (by first | exact ⟨0, rfl⟩ | exact ⟨_, rfl⟩ | (simp only [World.drewN_drewN]; exact ⟨_, rfl⟩))⟩
          · go_wp2
            go_quiet (fail)
            go_wp2
            go_quiet (fail)
            go_wp2
            go_roundw
            case rel => exact ⟨k + 1, by omega, by omega, by go_num, (by first | exact ⟨0, rfl⟩ | exact ⟨_, rfl⟩ | (simp only [World.drewN_drewN]; exact ⟨_, rfl⟩)), Lib.hid (by rw [← HC.out, S.out, if_neg (by omega), if_neg (by omega)])⟩
            case measure => simp [intOf]; omega
      · have F := Lib.hid (show cmpL l1 l2 = 1 from by
          have e : k = l2.length := by rw [L2.out]; omega
          rw [← HC.out, e]; exact cmpL_left (by rw [L1.out, L2.out]; omega))
        go_wp2
        go_ret
        exact ⟨ret_int F.out.symm, (by first | exact ⟨0, rfl⟩ | exact ⟨_, rfl⟩ | (simp only [World.drewN_drewN]; exact ⟨_, rfl⟩))⟩
    · have e : k = l1.length := by rw [L1.out]; omega
      have C := HC.out
      by_cases hl : n1 < n2
      · have F := Lib.hid (show cmpL l1 l2 = -1 from by rw [← C, e]; exact cmpL_right (by rw [L1.out, L2.out]; omega))
        clear C e
        go_wp2
        go_ret
        exact ⟨ret_int F.out.symm, (by first | exact ⟨0, rfl⟩ | exact ⟨_, rfl⟩ | (simp only [World.drewN_drewN]; exact ⟨_, rfl⟩))⟩
      · have F := Lib.hid (show cmpL l1 l2 = 0 from by rw [← C, e]; exact cmpL_end (by rw [L1.out, L2.out]; omega))
        clear C e
        go_wp2
        go_ret
        exact ⟨ret_int F.out.symm, (by first | exact ⟨0, rfl⟩ | exact ⟨_, rfl⟩ | (simp only [World.drewN_drewN]; exact ⟨_, rfl⟩))⟩

theorem be_cast {l : List UInt8} {k : Nat} (h : k < l.length) : ((be (l.take (k + 1)) : Nat) : Int) = (be (l.take k) : Int) * 256 + bt l k := by
  rw [be_step h]; unfold bt; omega

end Go.Proofs.Ytnpmgofkfdpbjaa.Cur
