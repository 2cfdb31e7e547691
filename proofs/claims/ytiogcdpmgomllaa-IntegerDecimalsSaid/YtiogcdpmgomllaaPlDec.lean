/- Plain laws of decimal notation: digits of a number, and a division by ten, digit by digit. No program in sight. -/
import Derived.Test.YtiogcdpmgomllaaPlIntB
set_option linter.unusedSimpArgs false
set_option linter.unusedVariables false
namespace Go.Proofs.Ytiogcdpmgomllaa.Int4
open Kit Cur Tlv

def decF : Nat → Nat → List UInt8
  | 0, _ => []
  | f + 1, n => if n < 10 then [ofI (48 + (n : Int))] else decF f (n / 10) ++ [ofI (48 + ((n % 10 : Nat) : Int))]
theorem decF_same : ∀ (f g n : Nat), n < f → n < g → decF f n = decF g n
  | 0, _, n, h, _ => by omega
  | _, 0, n, _, h => by omega
  | f + 1, g + 1, n, h1, h2 => by
    by_cases h : n < 10
    · rw [decF, decF, if_pos h, if_pos h]
    · rw [decF, decF, if_neg h, if_neg h, decF_same f g (n / 10) (by omega) (by omega)]
/-- the decimal digits of a number -/
def decL (n : Nat) : List UInt8 := decF (n + 1) n
theorem decL_small {n : Nat} (h : n < 10) : decL n = [ofI (48 + (n : Int))] := by unfold decL; rw [decF, if_pos h]
theorem decL_big {n : Nat} (h : ¬ n < 10) : decL n = decL (n / 10) ++ [ofI (48 + ((n % 10 : Nat) : Int))] := by
  unfold decL; rw [decF, if_neg h, decF_same n (n / 10 + 1) (n / 10) (by omega) (by omega)]
/-- digits gathered from below -/
def DG (v0 v : Nat) (o : List UInt8) : Prop := decL v0 = decL v ++ o.reverse ∧ (o = [] ∨ v ≠ 0)
theorem DG.start (v : Nat) : DG v v [] := ⟨by simp, .inl rfl⟩
theorem DG.step {v0 v : Nat} {o : List UInt8} (h : DG v0 v o) (hq : v / 10 ≠ 0) : DG v0 (v / 10) (o ++ [ofI (48 + ((v % 10 : Nat) : Int))]) := by
  refine ⟨?_, .inr hq⟩
  rw [h.1, decL_big (by omega), List.reverse_append, List.reverse_singleton, List.append_assoc]
theorem DG.stop {v0 v : Nat} {o : List UInt8} (h : DG v0 v o) (hq : v / 10 = 0) : decL v0 = (o ++ [ofI (48 + ((v % 10 : Nat) : Int))]).reverse := by
  rw [h.1, decL_small (by omega), List.reverse_append, List.reverse_singleton, show v % 10 = v from by omega]
/-- one digit of a division by ten -/
def Div10 (l m : List UInt8) (i : Nat) (r : Int) : Prop := m.length = l.length ∧ m.drop i = l.drop i ∧ beI (l.take i) = beI (m.take i) * 10 + r ∧ 0 ≤ r ∧ r ≤ 9
theorem Div10.start (l : List UInt8) : Div10 l l 0 0 := ⟨rfl, rfl, by simp [beI_nil], by omega, by omega⟩
theorem beI_take {l : List UInt8} {k : Nat} (h : k < l.length) : beI (l.take (k + 1)) = beI (l.take k) * 256 + bt l k := by
  rw [Cur.take_succ_get h, beI_snoc, bt_eq h]
theorem Div10.at_ {l m : List UInt8} {i : Nat} {r : Int} (h : Div10 l m i r) (hi : i < l.length) : bt m i = bt l i := by
  have h1 : bt (m.drop i) 0 = bt (l.drop i) 0 := by rw [h.2.1]
  rwa [bt_drop, bt_drop, Nat.add_zero] at h1
theorem Div10.step {l m : List UInt8} {i : Nat} {r : Int} (h : Div10 l m i r) (hi : i < l.length) : Div10 l (m.set i (ofI ((r * 256 + bt l i) / 10))) (i + 1) ((r * 256 + bt l i) % 10) := by
  obtain ⟨h1, h2, h3, h4, h5⟩ := h
  have b0 := bt_lo l i
  have b1 := bt_hi l i
  refine ⟨by simp [h1], ?_, ?_, by omega, by omega⟩
  · have := congrArg (List.drop 1) h2
    rw [List.drop_drop, List.drop_drop] at this
    rw [List.drop_set_of_lt (by omega)]
    exact this
  · have e1 : (m.set i (ofI ((r * 256 + bt l i) / 10))).take (i + 1) = m.take i ++ [ofI ((r * 256 + bt l i) / 10)] := by
      rw [List.take_succ_eq_append_getElem (by simp; omega), List.take_set_of_le (Nat.le_refl _)]
      simp
    rw [e1, beI_take hi, beI_snoc, h3, ofI_toNat (by omega) (by omega)]
    omega
theorem Div10.stop {l m : List UInt8} {r : Int} (h : Div10 l m l.length r) : be m = be l / 10 ∧ r = ((be l % 10 : Nat) : Int) := by
  obtain ⟨h1, h2, h3, h4, h5⟩ := h
  rw [List.take_of_length_le (Nat.le_refl _), List.take_of_length_le (by omega)] at h3
  unfold beI at h3
  omega
/-- how many decimal digits -/
theorem be_dec (l : List UInt8) : be l < 10 ^ (3 * l.length) := by
  have h1 := be_lt l
  have h2 : (256 : Nat) ^ l.length ≤ 1000 ^ l.length := Nat.pow_le_pow_left (by omega) _
  rw [Nat.pow_mul]
  exact Nat.lt_of_lt_of_le h1 h2
/-- the decimal notation -/
def decI (l : List UInt8) : List UInt8 := if validI l = false then [] else if 128 ≤ bt l 0 then 45 :: decL (256 ^ l.length - be l) else decL (be l)
end Go.Proofs.Ytiogcdpmgomllaa.Int4
