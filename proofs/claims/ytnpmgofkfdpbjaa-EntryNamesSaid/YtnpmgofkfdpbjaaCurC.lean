/- Walks over the reference of the package cursor: numbers. -/
import Derived.Test.YtnpmgofkfdpbjaaCurB
set_option linter.unusedSimpArgs false
set_option linter.unusedVariables false
namespace Go.Proofs.Ytnpmgofkfdpbjaa.Cur
open Go.RowKit Kit

theorem be_small8 {l : List UInt8} {k : Nat} (h : k < l.length) (h8 : l.length ≤ 8) : be (l.take k) < 72057594037927936 := by
  have h1 := be_step h
  have h2 := be_take_lt h8 (k + 1)
  unfold W64 at h2
  omega

set_option maxHeartbeats 1000000 in
theorem refuint_any (A1 : Option Addr) (n1 c1 : Nat) (l1 : List UInt8) (w : World) {B1 : Nat} (h1 : Rd w B1 A1 n1 l1) (h1c : n1 ≤ c1) (m1 : c1 ≤ maxLen) :
    Calls Try.prog 173 #[.slice A1 n1 c1] w fun e w' => e = .returned (.tuple #[.int .u64 (uintV l1), .bool (uintOk l1)]) ∧ w = w' := by
  unfold maxLen at m1
  go_enter Try.func173, Try.ntmps173
  go_wp2
  go_loop [0] (fun v => ∃ A n c l, v = .slice A n c ∧ n ≤ c ∧ c ≤ c1 ∧ Rd w B1 A n l ∧ Hid (be l = be l1)) (fun v => match v with | .slice _ n _ => n | _ => 0)
  case atStart => exact ⟨A1, n1, c1, l1, rfl, h1c, Nat.le_refl _, h1, Lib.hid rfl⟩
  case round =>
    obtain ⟨A, n, c, l, rfl, hnc, hcc, hr, HV⟩ := hrel
    have LN := Lib.hid hr.len
    by_cases hlt : 0 < n
    · obtain ⟨a1, rfl, _, hc1⟩ := hr.at0 hlt
      have b1 := bt_lo l 0
      have b2 := bt_hi l 0
      by_cases hz : bt l 0 = 0
      · have hz' : (bt l 0 == 0) = true := by simpa using hz
        have HZ := Lib.hid (be_drop (l := l) (by rw [LN.out]; exact hlt) (by unfold bt at hz; omega))
        clear hz
        go_wp2
        go_round
        case rel =>
          refine ⟨_, _, _, l.drop 1, rfl, by omega, by omega, ?_, Lib.hid (by rw [HZ.out, HV.out])⟩
          have h := hr.cut (k := 1) (m := n) (cap := c) (by omega) (Nat.le_refl _) (by omega)
          rw [List.take_of_length_le (by rw [List.length_drop, LN.out]; exact Nat.le_refl _)] at h
          simpa [Addr.add] using h
        case measure => simp; omega
      · have hz' : (bt l 0 == 0) = false := by simpa using hz
        have HN : Hid ((l.getD 0 0).toNat ≠ 0) := Lib.hid (by unfold bt at hz; omega)
        clear hz
        by_cases h8 : 8 < n
        · have F := Lib.hid (uint_no (l := l1) (by rw [← HV.out]; exact be_ge (by rw [LN.out]; exact h8) HN.out))
          go_wp2
          go_ret2
          exact ⟨ret2 (vint F.out.1.symm) (vbool F.out.2.symm), rfl⟩
        · go_wp2
          go_loop [4, 5] (fun x i => ∃ k : Nat, k ≤ n ∧ i = .int .i64 k ∧ x = .int .u64 (be (l.take k) : Nat)) (fun _ i => n - (intOf i).toNat)
          case atStart => exact ⟨0, Nat.zero_le _, rfl, rfl⟩
          case round =>
            obtain ⟨k, hk, rfl, rfl⟩ := hrel
            by_cases hlt2 : k < n
            · obtain ⟨a2, e2, _, hc2⟩ := hr.at_ hlt2
              injection e2 with e2
              subst e2
              have b3 := bt_lo l k
              have b4 := bt_hi l k
              have hst := Lib.hid (be_cast (l := l) (k := k) (by rw [LN.out]; exact hlt2))
              have hv := be_small8 (l := l) (k := k) (by rw [LN.out]; omega) (by rw [LN.out]; omega)
              go_wp2
              go_round
              case rel => exact ⟨k + 1, by omega, by go_num, vint (by rw [hst.out])⟩
              case measure => simp [intOf]; omega
            · have F := Lib.hid (show l.take k = l from List.take_of_length_le (by rw [LN.out]; omega))
              have G := Lib.hid (uint_yes (l := l1) (by rw [← HV.out]; exact be_lt8 (by rw [LN.out]; omega)))
              go_wp2
              go_ret2
              exact ⟨ret2 (vint (by rw [G.out.1, F.out, HV.out])) (vbool G.out.2.symm), rfl⟩
    · have e0 : l = [] := List.eq_nil_of_length_eq_zero (by rw [LN.out]; omega)
      have G := Lib.hid (uint_yes (l := l1) (by rw [← HV.out, e0]; unfold be W64; simp))
      have G0 := Lib.hid (show be l1 = 0 by rw [← HV.out, e0]; rfl)
      clear e0
      obtain rfl : n = 0 := by omega
      go_wp2
      go_loop [4, 5] (fun x i => i = .int .i64 0 ∧ x = .int .u64 0) (fun _ _ => 0)
      case atStart => exact ⟨rfl, rfl⟩
      case round =>
        obtain ⟨rfl, rfl⟩ := hrel
        go_wp2
        go_ret2
        exact ⟨ret2 (vint (by rw [G.out.1, G0.out]; rfl)) (vbool G.out.2.symm), rfl⟩
end Go.Proofs.Ytnpmgofkfdpbjaa.Cur
