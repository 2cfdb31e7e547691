/- Plain laws of unsigned numbers: digits without zeros, their contents octets. No program in sight. -/
import Derived.Test.YtiogcdpmgomllaaPlInt
set_option linter.unusedSimpArgs false
set_option linter.unusedVariables false
namespace Go.Proofs.Ytiogcdpmgomllaa.Int4
open Kit Cur Tlv

/-- digits without zeros at the beginning -/
def trimZ : List UInt8 → List UInt8
  | [] => []
  | x :: t => if 1 ≤ t.length ∧ (x.toNat : Int) = 0 then trimZ t else x :: t
theorem trimZ_go {l : List UInt8} (h : 2 ≤ l.length) (h0 : bt l 0 = 0) : trimZ l = trimZ (l.drop 1) := by
  match l, h with
  | x :: t, h => rw [trimZ, if_pos ⟨by simpa using h, h0⟩, List.drop_succ_cons, List.drop_zero]
theorem trimZ_stop {l : List UInt8} (h : ¬ (2 ≤ l.length ∧ bt l 0 = 0)) : trimZ l = l := by
  cases l with
  | nil => rfl
  | cons x t => rw [trimZ, if_neg (by intro hh; exact h ⟨by simp; omega, hh.2⟩)]
theorem trimZ_ok : ∀ (l : List UInt8), beI (trimZ l) = beI l ∧ (trimZ l).length ≤ l.length ∧ (1 ≤ l.length → 1 ≤ (trimZ l).length) ∧ (2 ≤ (trimZ l).length → bt (trimZ l) 0 ≠ 0) ∧ ((trimZ l).length = 0 → l = [])
  | [] => by simp [trimZ]
  | x :: t => by
    by_cases g : 2 ≤ (x :: t).length ∧ bt (x :: t) 0 = 0
    · rw [trimZ_go g.1 g.2, List.drop_succ_cons, List.drop_zero]
      obtain ⟨a, b, c, d, e⟩ := trimZ_ok t
      have ht : 1 ≤ t.length := by have := g.1; simp at this; exact this
      have hx : (x.toNat : Int) = 0 := g.2
      refine ⟨by rw [a, beI_cons, hx]; omega, by simp; omega, fun _ => c ht, d, fun h => ?_⟩
      have := c ht; omega
    · rw [trimZ_stop g]
      exact ⟨rfl, Nat.le_refl _, fun h => h, fun h h0 => g ⟨h, h0⟩, fun h => List.eq_nil_of_length_eq_zero h⟩
/-- the contents octets of a number with digits -/
def unsL (l : List UInt8) : List UInt8 := if (trimZ l).length = 0 ∨ 128 ≤ bt (trimZ l) 0 then 0 :: trimZ l else trimZ l
theorem beI_z (l : List UInt8) : beI (0 :: l) = beI l := by rw [beI_cons]; simp
theorem sv_z (l : List UInt8) : sv (0 :: l) = beI l := by rw [sv_pos (by show ¬ (128 : Int) ≤ 0; omega), beI_z]
theorem uns_ok (l : List UInt8) : validI (unsL l) = true ∧ sv (unsL l) = beI l ∧ (unsL l).length ≤ l.length + 1 ∧ 1 ≤ (unsL l).length := by
  obtain ⟨a, b, c, d, e⟩ := trimZ_ok l
  unfold unsL
  by_cases g : (trimZ l).length = 0 ∨ 128 ≤ bt (trimZ l) 0
  · rw [if_pos g]
    refine ⟨?_, by rw [sv_z, a], by simp; omega, by simp⟩
    rcases g with g | g
    · exact valid_one (by simp [g])
    · rcases (by omega : (trimZ l).length = 0 ∨ 1 ≤ (trimZ l).length) with g0 | g0
      · exact valid_one (by simp [g0])
      · refine valid_iff.2 (.inr ⟨by simp; omega, ?_, ?_⟩)
        · rw [show bt (0 :: trimZ l) 1 = bt (trimZ l) 0 from rfl]; omega
        · rw [show bt (0 :: trimZ l) 0 = 0 from rfl]; omega
  · rw [if_neg g]
    refine ⟨?_, by rw [sv_pos (by omega), a], by omega, by omega⟩
    rcases (by omega : (trimZ l).length = 1 ∨ 2 ≤ (trimZ l).length) with h | h
    · exact valid_one h
    · exact valid_iff.2 (.inr ⟨h, by have := d h; omega, by omega⟩)
/-- the reference's way to them -/
theorem uns_trim (l : List UInt8) : trimI (0 :: l) = unsL l := by
  obtain ⟨a, b, _⟩ := trim_ok (0 :: l) (by simp)
  obtain ⟨c, d, _⟩ := uns_ok l
  exact sv_inj a c (by rw [b, d, sv_z])
/-- the digits of a valid one that is not negative -/
theorem uns_valid {l : List UInt8} (hv : validI l = true) (hn : ¬ 128 ≤ bt l 0) : trimZ l = if 2 ≤ l.length ∧ bt l 0 = 0 then l.drop 1 else l := by
  by_cases g : 2 ≤ l.length ∧ bt l 0 = 0
  · rw [if_pos g, trimZ_go g.1 g.2]
    apply trimZ_stop
    intro hh
    rcases valid_iff.1 hv with h | ⟨_, v, _⟩
    · omega
    · rw [bt_drop, show 1 + 0 = 1 from rfl] at hh; have := bt_lo l 1; omega
  · rw [if_neg g]; exact trimZ_stop g
/-- what Unsigned returns -/
def unsC (l : List UInt8) : Int := if validI l = false then 6 else if 128 ≤ bt l 0 then 9 else 0
def unsD (l : List UInt8) : List UInt8 := if unsC l = 0 then trimZ l else []
theorem unsC_bad {l : List UInt8} (h : validI l = false) : unsC l = 6 ∧ unsD l = [] := by
  have e : unsC l = 6 := by unfold unsC; rw [if_pos h]
  exact ⟨e, by unfold unsD; rw [e]; simp⟩
theorem unsC_neg {l : List UInt8} (h : validI l = true) (hn : 128 ≤ bt l 0) : unsC l = 9 ∧ unsD l = [] := by
  have e : unsC l = 9 := by unfold unsC; rw [if_neg (by simp [h]), if_pos hn]
  exact ⟨e, by unfold unsD; rw [e]; simp⟩
theorem unsC_ok {l : List UInt8} (h : validI l = true) (hn : ¬ 128 ≤ bt l 0) : unsC l = 0 ∧ unsD l = trimZ l := by
  have e : unsC l = 0 := by unfold unsC; rw [if_neg (by simp [h]), if_neg hn]
  exact ⟨e, by unfold unsD; rw [e]; simp⟩
/-- the octets of digits are read as these digits -/
theorem uns_pos (l : List UInt8) : ¬ 128 ≤ bt (unsL l) 0 := by
  unfold unsL
  by_cases g : (trimZ l).length = 0 ∨ 128 ≤ bt (trimZ l) 0
  · rw [if_pos g]; show ¬ (128 : Int) ≤ 0; omega
  · rw [if_neg g]; omega
theorem uns_back (l : List UInt8) : unsC (unsL l) = 0 ∧ unsL (unsD (unsL l)) = unsL l := by
  obtain ⟨a, b, _⟩ := uns_ok l
  obtain ⟨c, d⟩ := unsC_ok a (uns_pos l)
  refine ⟨c, ?_⟩
  rw [d]
  obtain ⟨e, f, _⟩ := uns_ok (trimZ (unsL l))
  have hz := (trimZ_ok (unsL l)).1
  exact sv_inj e a (by rw [f, hz, ← sv_pos (uns_pos l)])
end Go.Proofs.Ytiogcdpmgomllaa.Int4
