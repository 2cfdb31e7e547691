/- Plain laws of the clock's contents octets: two digits, the encodings, what is decoded. No program in sight. -/
import Derived.Test.YtnpmgofkfdpbjaaPlClk
import Derived.Test.YtnpmgofkfdpbjaaBs
set_option linter.unusedSimpArgs false
set_option linter.unusedVariables false
namespace Go.Proofs.Ytnpmgofkfdpbjaa.Clk
open Kit

/-- two decimal digits -/
def dig (n : Int) : List UInt8 := [ofI (48 + n / 10), ofI (48 + n % 10)]
theorem dig_len (n : Int) : (dig n).length = 2 := rfl
/-- what follows the year -/
def tailL (m d h mi s : Int) : List UInt8 := dig m ++ dig d ++ dig h ++ dig mi ++ dig s ++ [90]
def utcL (y m d h mi s : Int) : List UInt8 := dig (y % 100) ++ tailL m d h mi s
def genL (y m d h mi s : Int) : List UInt8 := dig (y / 100) ++ dig (y % 100) ++ tailL m d h mi s
def utcCode (y m d h mi s : Int) : Int := if validB y m d h mi s = true then (if y < 1950 ∨ 2049 < y then 9 else 0) else 8
def genCode (y m d h mi s : Int) : Int := if validB y m d h mi s = true then 0 else 8
def utcBytes (y m d h mi s : Int) : List UInt8 := if utcCode y m d h mi s = 0 then utcL y m d h mi s else []
def genBytes (y m d h mi s : Int) : List UInt8 := if genCode y m d h mi s = 0 then genL y m d h mi s else []

theorem valid_bd {y m d h mi s : Int} (hv : validB y m d h mi s = true) : 0 ≤ y ∧ y ≤ 9999 ∧ 1 ≤ m ∧ m ≤ 12 ∧ 1 ≤ d ∧ d ≤ 31 ∧ 0 ≤ h ∧ h ≤ 23 ∧ 0 ≤ mi ∧ mi ≤ 59 ∧ 0 ≤ s ∧ s ≤ 59 := by
  rw [valid_iff] at hv
  have hb := days_bd y m
  have hz : ¬ (y < 0 ∨ 9999 < y ∨ m < 1 ∨ 12 < m) := fun h => by have := days_zero h; omega
  omega

/-- the digits of five fields, one after the other -/
def digs (fs : List Int) : List UInt8 := fs.flatMap dig
theorem digs_snoc (fs : List Int) (n : Int) : digs (fs ++ [n]) = digs fs ++ dig n := by simp [digs]
theorem digs_len : ∀ (fs : List Int), (digs fs).length = 2 * fs.length
  | [] => rfl
  | n :: fs => by have := digs_len fs; simp only [digs, List.flatMap_cons, List.length_append, List.length_cons, dig_len] at this ⊢; omega
theorem digs_more {fs : List Int} {k : Nat} (h : k < fs.length) : digs (fs.take (k + 1)) = digs (fs.take k) ++ dig (fs.getD k 0) := by
  rw [List.take_succ_eq_append_getElem h, digs_snoc]
  simp [List.getD, List.getElem?_eq_getElem h]
theorem tail_digs (m d h mi s : Int) : tailL m d h mi s = digs [m, d, h, mi, s] ++ [90] := by simp [tailL, digs, List.append_assoc]

/-- a decimal digit of the reference -/
def digL (n : Int) : Nat → List UInt8
  | 0 => []
  | c + 1 => digL (n / 10) c ++ [ofI (48 + n % 10)]
theorem digL_two {n : Int} (h0 : 0 ≤ n) (h1 : n ≤ 99) : digL n 2 = dig n := by
  have e : n / 10 % 10 = n / 10 := by omega
  simp [digL, dig, e]
theorem digL_year2 {y : Int} (h0 : 0 ≤ y) : digL y 2 = dig (y % 100) := by
  have e1 : y / 10 % 10 = y % 100 / 10 := by omega
  have e2 : y % 10 = y % 100 % 10 := by omega
  show [] ++ [ofI (48 + y / 10 % 10)] ++ [ofI (48 + y % 10)] = [ofI (48 + y % 100 / 10), ofI (48 + y % 100 % 10)]
  rw [e1, e2]; rfl
theorem digL_year4 {y : Int} (h0 : 0 ≤ y) (h1 : y ≤ 9999) : digL y 4 = dig (y / 100) ++ dig (y % 100) := by
  have e1 : y / 10 / 10 / 10 % 10 = y / 100 / 10 := by omega
  have e2 : y / 10 / 10 % 10 = y / 100 % 10 := by omega
  have e3 : y / 10 % 10 = y % 100 / 10 := by omega
  have e4 : y % 10 = y % 100 % 10 := by omega
  show [] ++ [ofI (48 + y / 10 / 10 / 10 % 10)] ++ [ofI (48 + y / 10 / 10 % 10)] ++ [ofI (48 + y / 10 % 10)] ++ [ofI (48 + y % 10)] = [ofI (48 + y / 100 / 10), ofI (48 + y / 100 % 10)] ++ [ofI (48 + y % 100 / 10), ofI (48 + y % 100 % 10)]
  rw [e1, e2, e3, e4]; rfl
theorem digL_len (n : Int) : ∀ c, (digL n c).length = c := by
  intro c
  induction c generalizing n with
  | zero => rfl
  | succ c ih => simp [digL, ih]
end Go.Proofs.Ytnpmgofkfdpbjaa.Clk
