/- Plain laws of decimal notation, second part: the opposite of an unsigned number, and strings that denote none. No program in sight. -/
import Derived.Test.YtiogcdpmgomllaaPlDecB
set_option linter.unusedSimpArgs false
set_option linter.unusedVariables false
namespace Go.Proofs.Ytiogcdpmgomllaa.Int4
open Kit Cur Tlv

/-- a sign and nothing but zeros: no integer has this notation -/
theorem ParS.no0 {s : List UInt8} (h : hasS s = true) (h0 : valS s = 0) : ParS s [] 11 := by
  refine ParS.no (c := [0]) (valid_one rfl) (by rw [h0]; rfl) (fun e => ?_)
  have h1 := (dec_val (c := [0]) (valid_one rfl)).1
  rw [e] at h1
  have h2 : decI [0] = decL 0 := by rfl
  have h3 := digits_sign (decL_back 0).2.1
  rw [← h2, e, h] at h3
  cases h3
/-- the opposite of a number without a sign -/
theorem neg_uns {u v : List UInt8} (h1 : 1 ≤ u.length) (h2 : ¬ 128 ≤ bt u 0) (h3 : beI u ≠ 0) (h4 : v.length = u.length) (h5 : beI v = pw u.length - beI u) : sv v = - beI u := by
  have d1 := drop_beI' (l := u) (j := 0) (by omega)
  have d2 := drop_beI' (l := v) (j := 0) (by omega)
  rw [List.drop_zero] at d1 d2
  have r1 := beI_bd (u.drop (0 + 1))
  have r2 := beI_bd (v.drop (0 + 1))
  rw [List.length_drop] at r1 r2
  rw [h4] at d2 r2
  have hp : pw u.length = pw (u.length - (0 + 1)) * 256 := by
    rw [← pw_succ, show u.length - (0 + 1) + 1 = u.length from by omega]
  have b0 := bt_lo u 0
  have pp := pw_pos (u.length - (0 + 1))
  have hv : 128 ≤ bt v 0 := by
    rcases Int.lt_or_le (bt v 0) 128 with g | g
    · exfalso
      rw [hp] at h5
      generalize pw (u.length - (0 + 1)) = P at *
      have m1 : bt v 0 * P ≤ 127 * P := Int.mul_le_mul_of_nonneg_right (by omega) (by omega)
      have m2 : bt u 0 * P ≤ 127 * P := Int.mul_le_mul_of_nonneg_right (by omega) (by omega)
      omega
    · exact g
  rw [sv_neg hv, h4, h5]
  omega
/-- what the reference's complement and sum come to -/
theorem neg_ref {u m v : List UInt8} {s : List UInt8} (hs : hasS s = true) (h1 : 1 ≤ u.length) (h2 : ¬ 128 ≤ bt u 0) (h3 : beI u = ((decV (numS s) : Nat) : Int)) (hm : m.length = u.length) (hc : beI m + beI u = pw u.length - 1)
    (hv : beI v = beI m + 1) (hl : v.length = m.length ∨ pw m.length ≤ beI v) {c : List UInt8} (ht : validI c = true ∧ sv c = sv v) : decI c ≠ s → ParS s [] 11 := by
  intro hne
  have hvs : valS s = - beI u := by unfold valS; rw [if_pos hs, h3]
  by_cases h0 : beI u = 0
  · exact ParS.no0 hs (by rw [hvs, h0]; rfl)
  · refine ParS.no ht.1 ?_ hne
    rw [hvs, ht.2]
    have b := (beI_bd u).1
    refine neg_uns h1 h2 h0 ?_ (by omega)
    rw [hm] at hl
    rcases hl with hl | hl
    · exact hl
    · exfalso; omega
/-- what negated comes to -/
theorem neg_own {u v : List UInt8} {s : List UInt8} {cy : Int} (hs : hasS s = true) (h1 : 1 ≤ u.length) (h2 : ¬ 128 ≤ bt u 0) (h3 : beI u = ((decV (numS s) : Nat) : Int)) (hv : v.length = u.length) (hc : beI v + cy * pw u.length = pw u.length - beI u) (c0 : 0 ≤ cy) (c1 : cy ≤ 1)
    {c : List UInt8} (ht : validI c = true ∧ sv c = sv v) : decI c ≠ s → ParS s [] 11 := by
  intro hne
  have hvs : valS s = - beI u := by unfold valS; rw [if_pos hs, h3]
  by_cases h0 : beI u = 0
  · exact ParS.no0 hs (by rw [hvs, h0]; rfl)
  · refine ParS.no ht.1 ?_ hne
    rw [hvs, ht.2]
    have b := (beI_bd u).1
    have b2 := (beI_bd v).1
    refine neg_uns h1 h2 h0 hv ?_
    rcases (by omega : cy = 0 ∨ cy = 1) with rfl | rfl <;> omega
/-- the last test -/
theorem str_data {u : List UInt8} {S : ByteArray} : (⟨u.toArray⟩ : ByteArray) = S ↔ u = S.data.toList := by
  constructor
  · intro h; rw [← h]
  · intro h; rw [h]
end Go.Proofs.Ytiogcdpmgomllaa.Int4
