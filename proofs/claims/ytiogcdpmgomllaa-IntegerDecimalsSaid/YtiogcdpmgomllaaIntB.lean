/- Walks: bits, validity and sign of integers, in the reference. -/
import Derived.Test.YtiogcdpmgomllaaIntA
set_option linter.unusedSimpArgs false
set_option linter.unusedVariables false
namespace Go.Proofs.Ytiogcdpmgomllaa.Int4
open Go.RowKit Kit Tlv

/-- bit k of the octets, from the highest one on -/
def bitV (l : List UInt8) (k : Nat) : Int := bt l (k / 8) / (((2 ^ (7 - k % 8) : Nat)) : Int) % 2
def bitS (l : List UInt8) : Nat → Int
  | 0 => 0
  | k + 1 => bitS l k + bitV l k
theorem bitV_bd (l : List UInt8) (k : Nat) : 0 ≤ bitV l k ∧ bitV l k ≤ 1 := by unfold bitV; omega
theorem bitS_bd (l : List UInt8) : ∀ k, 0 ≤ bitS l k ∧ bitS l k ≤ k
  | 0 => by simp [bitS]
  | k + 1 => by have := bitS_bd l k; have := bitV_bd l k; simp only [bitS]; omega
/-- the bits of one octet -/
def pop (x : Int) : Int := x / 128 % 2 + x / 64 % 2 + x / 32 % 2 + x / 16 % 2 + x / 8 % 2 + x / 4 % 2 + x / 2 % 2 + x / 1 % 2
theorem pop_all : ∀ a : Fin 256, (pop ((a.1 : Nat) : Int) = 0 ↔ a.1 = 0) ∧ (pop ((a.1 : Nat) : Int) = 8 ↔ a.1 = 255) ∧ 0 ≤ pop ((a.1 : Nat) : Int) ∧ pop ((a.1 : Nat) : Int) ≤ 8 := by decide +kernel
theorem bitS_9 (l : List UInt8) : bitS l 9 = pop (bt l 0) + bt l 1 / 128 % 2 := by
  simp only [bitS, bitV, pop]
  simp
theorem bits_valid {l : List UInt8} (h : 2 ≤ l.length) : validI l = (decide (bitS l 9 ≠ 0) && decide (bitS l 9 ≠ 9)) := by
  rw [valid_two h, bitS_9]
  have x0 := bt_lo l 0
  have x1 := bt_hi l 0
  have y0 := bt_lo l 1
  have y1 := bt_hi l 1
  obtain ⟨a, ha⟩ := Int.eq_ofNat_of_zero_le x0
  obtain ⟨p1, p2, p3, p4⟩ := pop_all ⟨a, by omega⟩
  simp only [] at p1 p2 p3 p4
  rw [ha]
  generalize pop ((a : Nat) : Int) = p at *
  generalize bt l 1 = y at *
  rw [Bool.eq_iff_iff]
  simp only [Bool.and_eq_true, Bool.not_eq_true', Bool.and_eq_false_iff, decide_eq_false_iff_not, decide_eq_true_eq]
  omega
theorem neg_bit (l : List UInt8) : bitV l 0 = if 128 ≤ bt l 0 then 1 else 0 := by
  have x0 := bt_lo l 0
  have x1 := bt_hi l 0
  unfold bitV
  simp only [Nat.zero_div, Nat.zero_mod, Nat.sub_zero]
  split <;> omega

set_option maxHeartbeats 4000000 in
theorem bit_any {A : Option Addr} {n c B : Nat} {l : List UInt8} (k : Nat) (w : World) (hr : Rd w B A n l) (hB : B ≤ w.heap.size) (hk : k ≤ 8) (hn : k / 8 < n) :
    Calls Try.prog 26 #[.slice A n c, .int .i64 (k : Int)] w fun e w' => e = .returned (.int .i64 (bitV l k)) ∧ w = w' := by
  obtain ⟨ad, rfl, hb, c0, c1⟩ := two_at hr (by omega)
  have hb' : ad.block < w.heap.size := by omega
  have hn0 : (0 : Int) < (n : Int) := by omega
  have x0 := bt_lo l 0
  have x1 := bt_hi l 0
  have y0 := bt_lo l 1
  have y1 := bt_hi l 1
  clear hr
  rcases (by omega : k = 0 ∨ k = 1 ∨ k = 2 ∨ k = 3 ∨ k = 4 ∨ k = 5 ∨ k = 6 ∨ k = 7 ∨ k = 8) with rfl | rfl | rfl | rfl | rfl | rfl | rfl | rfl | rfl
  case inr.inr.inr.inr.inr.inr.inr.inr =>
    replace c1 := c1 (by omega)
    have hn1 : (1 : Int) < (n : Int) := by omega
    have F := Lib.hid (show bitV l 8 = bt l 1 / 128 % 2 from rfl)
    generalize bt l 1 = y at *
    go_enter Try.func26, Try.ntmps26
    go_wp2
    go_ret
    exact ⟨ret_int (by rw [F.out]), rfl⟩
  · have F := Lib.hid (show bitV l 0 = bt l 0 / 128 % 2 from rfl)
    clear c1
    generalize bt l 0 = x at *
    go_enter Try.func26, Try.ntmps26
    go_wp2
    go_ret
    exact ⟨ret_int (by rw [F.out]; try simp), rfl⟩
  · have F := Lib.hid (show bitV l 1 = bt l 0 / 64 % 2 from rfl)
    clear c1
    generalize bt l 0 = x at *
    go_enter Try.func26, Try.ntmps26
    go_wp2
    go_ret
    exact ⟨ret_int (by rw [F.out]; try simp), rfl⟩
  · have F := Lib.hid (show bitV l 2 = bt l 0 / 32 % 2 from rfl)
    clear c1
    generalize bt l 0 = x at *
    go_enter Try.func26, Try.ntmps26
    go_wp2
    go_ret
    exact ⟨ret_int (by rw [F.out]; try simp), rfl⟩
  · have F := Lib.hid (show bitV l 3 = bt l 0 / 16 % 2 from rfl)
    clear c1
    generalize bt l 0 = x at *
    go_enter Try.func26, Try.ntmps26
    go_wp2
    go_ret
    exact ⟨ret_int (by rw [F.out]; try simp), rfl⟩
  · have F := Lib.hid (show bitV l 4 = bt l 0 / 8 % 2 from rfl)
    clear c1
    generalize bt l 0 = x at *
    go_enter Try.func26, Try.ntmps26
    go_wp2
    go_ret
    exact ⟨ret_int (by rw [F.out]; try simp), rfl⟩
  · have F := Lib.hid (show bitV l 5 = bt l 0 / 4 % 2 from rfl)
    clear c1
    generalize bt l 0 = x at *
    go_enter Try.func26, Try.ntmps26
    go_wp2
    go_ret
    exact ⟨ret_int (by rw [F.out]; try simp), rfl⟩
  · have F := Lib.hid (show bitV l 6 = bt l 0 / 2 % 2 from rfl)
    clear c1
    generalize bt l 0 = x at *
    go_enter Try.func26, Try.ntmps26
    go_wp2
    go_ret
    exact ⟨ret_int (by rw [F.out]; try simp), rfl⟩
  · have F := Lib.hid (show bitV l 7 = bt l 0 / 1 % 2 from rfl)
    clear c1
    generalize bt l 0 = x at *
    go_enter Try.func26, Try.ntmps26
    go_wp2
    go_ret
    exact ⟨ret_int (by rw [F.out]; try simp), rfl⟩
end Go.Proofs.Ytiogcdpmgomllaa.Int4
