/- Plain laws of the order of integers' contents octets. No program in sight. -/
import Derived.Test.YtjdnjmggpomhcaaPlIntB
set_option linter.unusedSimpArgs false
set_option linter.unusedVariables false
namespace Go.Proofs.Ytjdnjmggpomhcaa.Int4
open Kit Cur Tlv

def sgn (d : Int) : Int := if d < 0 then -1 else if 0 < d then 1 else 0
theorem sgn_lt {d : Int} (h : d < 0) : sgn d = -1 := by unfold sgn; rw [if_pos h]
theorem sgn_gt {d : Int} (h : 0 < d) : sgn d = 1 := by unfold sgn; rw [if_neg (by omega), if_pos h]
theorem sgn_eq {d : Int} (h : d = 0) : sgn d = 0 := by unfold sgn; rw [if_neg (by omega), if_neg (by omega)]
theorem sgn_three (d : Int) : (d < 0 ∧ sgn d = -1) ∨ (d = 0 ∧ sgn d = 0) ∨ (0 < d ∧ sgn d = 1) := by
  rcases Int.lt_trichotomy d 0 with h | h | h
  · exact .inl ⟨h, sgn_lt h⟩
  · exact .inr (.inl ⟨h, sgn_eq h⟩)
  · exact .inr (.inr ⟨h, sgn_gt h⟩)
theorem sgn_neg (d : Int) : sgn (-d) = -(sgn d) := by
  rcases sgn_three d with ⟨h, e⟩ | ⟨h, e⟩ | ⟨h, e⟩ <;> rw [e]
  · rw [sgn_gt (by omega)]; rfl
  · rw [sgn_eq (by omega)]; rfl
  · rw [sgn_lt (by omega)]
/-- what Compare returns -/
def cmpI (a b : List UInt8) : Int := if validI a = true ∧ validI b = true then sgn (sv a - sv b) else 0
theorem cmpI_bad {a b : List UInt8} (h : ¬ (validI a = true ∧ validI b = true)) : cmpI a b = 0 := by unfold cmpI; rw [if_neg h]
theorem cmpI_ok {a b : List UInt8} (ha : validI a = true) (hb : validI b = true) : cmpI a b = sgn (sv a - sv b) := by unfold cmpI; rw [if_pos ⟨ha, hb⟩]
theorem cmpI_neg (a b : List UInt8) : cmpI b a = -(cmpI a b) := by
  by_cases h : validI a = true ∧ validI b = true
  · rw [cmpI_ok h.1 h.2, cmpI_ok h.2 h.1, ← sgn_neg]; congr 1; omega
  · rw [cmpI_bad h, cmpI_bad (fun h' => h ⟨h'.2, h'.1⟩)]; rfl
/-- equal lengths: lexicographic order is the order of the numbers -/
theorem cmpL_be : ∀ {a b : List UInt8}, a.length = b.length → cmpL a b = sgn (beI a - beI b)
  | [], [], _ => rfl
  | x :: a, y :: b, h => by
    have h' : a.length = b.length := by simpa using h
    have ha := beI_bd a
    have hb := beI_bd b
    rw [beI_cons, beI_cons, h']
    rw [h'] at ha
    have pp := pw_pos b.length
    simp only [cmpL]
    by_cases h1 : x.toNat < y.toNat
    · rw [if_pos h1, sgn_lt]
      have m := Int.mul_le_mul_of_nonneg_right (show ((x.toNat : Int) + 1) ≤ (y.toNat : Int) from by omega) (show 0 ≤ pw b.length from by omega)
      rw [Int.add_mul] at m
      omega
    · rw [if_neg h1]
      by_cases h2 : y.toNat < x.toNat
      · rw [if_pos h2, sgn_gt]
        have m := Int.mul_le_mul_of_nonneg_right (show ((y.toNat : Int) + 1) ≤ (x.toNat : Int) from by omega) (show 0 ≤ pw b.length from by omega)
        rw [Int.add_mul] at m
        omega
      · rw [if_neg h2, cmpL_be h', show x.toNat = y.toNat from by omega]
        congr 1
        omega
  | [], _ :: _, h => by simp at h
  | _ :: _, [], h => by simp at h
theorem cmp_signs {a b : List UInt8} (ha : validI a = true) (hb : validI b = true) (ga : 128 ≤ bt a 0) (gb : ¬ 128 ≤ bt b 0) : sv a - sv b < 0 := by
  have := ((sv_range ha).2 ga).1
  have := ((sv_range hb).1 gb).1
  omega
theorem cmp_same {a b : List UInt8} (hl : a.length = b.length) (hg : 128 ≤ bt a 0 ↔ 128 ≤ bt b 0) : cmpL a b = sgn (sv a - sv b) := by
  rw [cmpL_be hl]
  congr 1
  by_cases ga : 128 ≤ bt a 0
  · rw [sv_neg ga, sv_neg (hg.1 ga), hl]; omega
  · rw [sv_pos ga, sv_pos (fun h => ga (hg.2 h))]
theorem cmp_short {a b : List UInt8} (ha : validI a = true) (hb : validI b = true) (hl : a.length < b.length) : (128 ≤ bt a 0 → 128 ≤ bt b 0 → 0 < sv a - sv b) ∧ (¬ 128 ≤ bt a 0 → ¬ 128 ≤ bt b 0 → sv a - sv b < 0) := by
  obtain ⟨a1, a2⟩ := sv_range ha
  obtain ⟨b1, b2⟩ := sv_range hb
  have hp := pw_le (show a.length - 1 ≤ b.length - 2 from by have := valid_pos ha; omega)
  have h1 := valid_pos ha
  refine ⟨fun ga gb => ?_, fun ga gb => ?_⟩
  · have x := a2 ga; have y := (b2 gb).2.2 (by omega); omega
  · have x := a1 ga; have y := (b1 gb).2.2 (by omega); omega
/-- the sign's octet ahead -/
theorem sv_wide {l : List UInt8} (h : 1 ≤ l.length) : (128 ≤ bt l 0 → sv (255 :: l) = sv l ∧ 128 ≤ bt (255 :: l) 0) ∧ (¬ 128 ≤ bt l 0 → sv (0 :: l) = sv l ∧ ¬ 128 ≤ bt (0 :: l) 0) := by
  refine ⟨fun g => ?_, fun g => ?_⟩
  · have e : bt (255 :: l) 0 = 255 := rfl
    refine ⟨?_, by rw [e]; omega⟩
    rw [sv_neg (l := 255 :: l) (by rw [e]; omega), sv_neg g, beI_cons, List.length_cons, pw_succ, show (((255 : UInt8).toNat : Nat) : Int) = 255 from rfl]
    omega
  · have e : bt (0 :: l) 0 = 0 := rfl
    exact ⟨by rw [sv_z, sv_pos g], by rw [e]; omega⟩
/-- the sign turned -/
theorem sv_turn {l : List UInt8} {n : Nat} (h : l.length = n + 1) : (128 ≤ bt l 0 → beI (l.set 0 (ofI (bt l 0 - 128))) = sv l + 128 * pw n) ∧ (¬ 128 ≤ bt l 0 → beI (l.set 0 (ofI (bt l 0 + 128))) = sv l + 128 * pw n) := by
  match l, h with
  | x :: t, h =>
    have ht : t.length = n := by simpa using h
    have e : bt (x :: t) 0 = (x.toNat : Int) := rfl
    have b1 := bt_hi (x :: t) 0
    rw [e] at b1 ⊢
    rw [List.set_cons_zero, List.set_cons_zero]
    refine ⟨fun g => ?_, fun g => ?_⟩
    · rw [sv_neg (l := x :: t) g, beI_cons, beI_cons, ofI_toNat (by omega) (by omega), List.length_cons, pw_succ, ht, Int.sub_mul]; omega
    · rw [sv_pos (l := x :: t) g, beI_cons, beI_cons, ofI_toNat (by omega) (by omega), ht, Int.add_mul]; omega
end Go.Proofs.Ytjdnjmggpomhcaa.Int4
