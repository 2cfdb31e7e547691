/- Walks over the package cursor and its reference: byte equality, numbers, comparison. -/
import Derived.Test.YtjdnjmggpomhcaaPlCur
import Derived.Test.YtjdnjmggpomhcaaBs
set_option linter.unusedSimpArgs false
set_option linter.unusedVariables false
namespace Go.Proofs.Ytjdnjmggpomhcaa.Cur
open Go.RowKit Kit

/-- two lists of bytes are the same -/
def eqB (l m : List UInt8) : Bool := decide (l = m)
theorem eqB_self (l : List UInt8) : eqB l l = true := by simp [eqB]

set_option maxHeartbeats 400000 in
theorem bytes_any (A1 A2 : Option Addr) (n1 c1 n2 c2 : Nat) (l1 l2 : List UInt8) (w : World) {B1 B2 : Nat} (h1 : Rd w B1 A1 n1 l1) (h2 : Rd w B2 A2 n2 l2) :
    Calls Try.prog 21 #[.slice A1 n1 c1, .slice A2 n2 c2] w fun e w' => e = .returned (.bool (eqB l1 l2)) ∧ w = w' := by
  have k1 := run_str (P := Try.prog) (c := c1) h1 22 5 9 Try.underlying22 Try.underlying5 Try.underlying9
  have k2 := run_str (P := Try.prog) (c := c2) h2 22 5 9 Try.underlying22 Try.underlying5 Try.underlying9
  clear h1 h2
  go_enter Try.func21, Try.ntmps21
  go_wp2
  go_ret
  exact ⟨ret_bool (by simp [eqB, beq_str]), rfl⟩

set_option maxHeartbeats 400000 in
theorem cmpB_any (x y : Int) (w : World) (hx : 0 ≤ x) (hx1 : x ≤ 255) (hy : 0 ≤ y) (hy1 : y ≤ 255) :
    Calls Try.prog 76 #[.int .u8 x, .int .u8 y] w fun e w' => e = .returned (.int .i64 (if x < y then -1 else if y < x then 1 else 0)) ∧ w = w' := by
  by_cases h1 : x < y
  · rw [if_pos h1]
    go_enter Try.func76, Try.ntmps76
    go_wp2
    go_ret
    exact ⟨rfl, rfl⟩
  · rw [if_neg h1]
    by_cases h2 : y < x
    · rw [if_pos h2]
      go_enter Try.func76, Try.ntmps76
      go_wp2
      go_ret
      exact ⟨rfl, rfl⟩
    · rw [if_neg h2]
      go_enter Try.func76, Try.ntmps76
      go_wp2
      go_ret
      exact ⟨rfl, rfl⟩

theorem bt_nat (l : List UInt8) (k : Nat) : ((l.getD k 0).toNat : Int) = bt l k := rfl
theorem cmp_step {a b : List UInt8} {k : Nat} (ha : k < a.length) (hb : k < b.length) :
    cmpL (a.drop k) (b.drop k) = if bt a k < bt b k then -1 else if bt b k < bt a k then 1 else cmpL (a.drop (k + 1)) (b.drop (k + 1)) := by
  rw [cmpL_drop ha hb]
  unfold bt
  simp only [Int.ofNat_lt]

set_option maxHeartbeats 1000000 in
theorem compareFunc_any (A1 A2 : Option Addr) (n1 c1 n2 c2 : Nat) (l1 l2 : List UInt8) (w : World) {B1 B2 : Nat} (h1 : Rd w B1 A1 n1 l1) (h2 : Rd w B2 A2 n2 l2) (m1 : n1 ≤ maxLen) (m2 : n2 ≤ maxLen) :
    Calls Try.prog 75 #[.slice A1 n1 c1, .slice A2 n2 c2, .func (Fn.func 76) #[] #[]] w fun e w' => e = .returned (.int .i64 (cmpL l1 l2)) ∧ w = w' := by
  have L1 := Lib.hid h1.len
  have L2 := Lib.hid h2.len
  unfold maxLen at m1 m2
  go_enter Try.func75, Try.ntmps75
  go_wp2
  go_loop [13] (fun i => ∃ k : Nat, k ≤ n1 ∧ k ≤ n2 ∧ i = .int .i64 k ∧ Hid (cmpL (l1.drop k) (l2.drop k) = cmpL l1 l2)) (fun i => n1 - (intOf i).toNat)
  case atStart => exact ⟨0, Nat.zero_le _, Nat.zero_le _, rfl, Lib.hid (by simp)⟩
  case round =>
    obtain ⟨k, hk1, hk2, rfl, HC⟩ := hrel
    by_cases hlt : k < n1
    · by_cases hlt2 : k < n2
      · obtain ⟨a1, rfl, _, hc1⟩ := h1.at_ hlt
        obtain ⟨a2, rfl, _, hc2⟩ := h2.at_ hlt2
        have b1 := bt_lo l1 k
        have b2 := bt_hi l1 k
        have b3 := bt_lo l2 k
        have b4 := bt_hi l2 k
        have S := Lib.hid (cmp_step (a := l1) (b := l2) (k := k) (by rw [L1.out]; exact hlt) (by rw [L2.out]; exact hlt2))
        by_cases t1 : bt l1 k < bt l2 k
        · go_wp2_with (first | (go_at_call 76; refine (cmpB_any _ _ _ (by omega) (by omega) (by omega) (by omega)).mono ?_; rw [if_pos (by omega)]; rintro e w' ⟨rfl, rfl⟩))
          go_ret
          exact ⟨ret_int (by rw [← HC.out, S.out, if_pos (by omega)]), rfl⟩
        · by_cases t2 : bt l2 k < bt l1 k
          · go_wp2_with (first | (go_at_call 76; refine (cmpB_any _ _ _ (by omega) (by omega) (by omega) (by omega)).mono ?_; rw [if_neg (by omega), if_pos (by omega)]; rintro e w' ⟨rfl, rfl⟩))
            go_ret
            exact ⟨ret_int (by rw [← HC.out, S.out, if_neg (by omega), if_pos (by omega)]), rfl⟩
          · go_wp2_with (first | (go_at_call 76; refine (cmpB_any _ _ _ (by omega) (by omega) (by omega) (by omega)).mono ?_; rw [if_neg (by omega), if_neg (by omega)]; rintro e w' ⟨rfl, rfl⟩))
            go_round
            case rel => exact ⟨k + 1, by omega, by omega, by go_num, Lib.hid (by rw [← HC.out, S.out, if_neg (by omega), if_neg (by omega)])⟩
            case measure => simp [intOf]; omega
      · have F := Lib.hid (show cmpL l1 l2 = 1 from by
          have e : k = l2.length := by rw [L2.out]; omega
          rw [← HC.out, e]; exact cmpL_left (by rw [L1.out, L2.out]; omega))
        obtain ⟨a1, rfl, _, hc1⟩ := h1.at_ hlt
        have b1 := bt_lo l1 k
        have b2 := bt_hi l1 k
        go_wp2
        go_ret
        exact ⟨ret_int F.out.symm, rfl⟩
    · have e : k = l1.length := by rw [L1.out]; omega
      have C := HC.out
      by_cases hl : n1 < n2
      · have F := Lib.hid (show cmpL l1 l2 = -1 from by rw [← C, e]; exact cmpL_right (by rw [L1.out, L2.out]; omega))
        clear C e
        go_wp2
        go_ret
        exact ⟨ret_int F.out.symm, rfl⟩
      · have F := Lib.hid (show cmpL l1 l2 = 0 from by rw [← C, e]; exact cmpL_end (by rw [L1.out, L2.out]; omega))
        clear C e
        go_wp2
        go_ret
        exact ⟨ret_int F.out.symm, rfl⟩

theorem compare_any (A1 A2 : Option Addr) (n1 c1 n2 c2 : Nat) (l1 l2 : List UInt8) (w : World) {B1 B2 : Nat} (h1 : Rd w B1 A1 n1 l1) (h2 : Rd w B2 A2 n2 l2) (m1 : n1 ≤ maxLen) (m2 : n2 ≤ maxLen) :
    Calls Try.prog 68 #[.slice A1 n1 c1, .slice A2 n2 c2] w fun e w' => e = .returned (.int .i64 (cmpL l1 l2)) ∧ w = w' := by
  go_enter Try.func68, Try.ntmps68
  go_wp2_with (go_at_call 75; refine (compareFunc_any _ _ _ _ _ _ _ _ _ h1 h2 m1 m2).mono ?_; rintro e w' ⟨rfl, rfl⟩)
  go_ret
  exact ⟨rfl, rfl⟩
end Go.Proofs.Ytjdnjmggpomhcaa.Cur
