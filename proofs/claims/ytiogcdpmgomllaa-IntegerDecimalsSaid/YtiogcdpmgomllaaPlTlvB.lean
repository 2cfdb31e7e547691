/- Plain laws of length octets that are read. No program in sight. -/
import Derived.Test.YtiogcdpmgomllaaPlTlv
set_option linter.unusedSimpArgs false
set_option linter.unusedVariables false
namespace Go.Proofs.Ytiogcdpmgomllaa.Tlv
open Kit Cur

theorem be_inj : ∀ {a b : List UInt8}, a.length = b.length → be a = be b → a = b
  | [], [], _, _ => rfl
  | x :: a, y :: b, hl, he => by
    rw [be_cons, be_cons] at he
    have hl' : a.length = b.length := by simpa using hl
    rw [hl'] at he
    have ha := be_lt a
    have hb := be_lt b
    rw [hl'] at ha
    generalize 256 ^ b.length = B at *
    have hxy : x.toNat = y.toNat := by
      rcases Nat.lt_trichotomy x.toNat y.toNat with h | h | h
      · have := Nat.mul_le_mul_right B (show x.toNat + 1 ≤ y.toNat from h)
        rw [Nat.add_mul] at this
        omega
      · exact h
      · have := Nat.mul_le_mul_right B (show y.toNat + 1 ≤ x.toNat from h)
        rw [Nat.add_mul] at this
        omega
    rw [hxy] at he
    have := be_inj hl' (by omega)
    rw [this, UInt8.toNat_inj.1 hxy]
  | [], _ :: _, hl, _ => by simp at hl
  | _ :: _, [], hl, _ => by simp at hl
theorem minL_lo (n : Nat) : 1 ≤ n → n < W64 → 256 ^ ((minL n).length - 1) ≤ n := by
  induction n using Nat.strongRecOn with
  | ind n ih =>
    intro h1 h2
    by_cases hs : n < 256
    · rw [minL_small hs]; simpa using h1
    · rw [minL_big (by omega) h2]
      have hl := (minL_len (n / 256)).1
      have := ih (n / 256) (by omega) (by omega) (by unfold W64 at h2 ⊢; omega)
      obtain ⟨k, hk⟩ : ∃ k, (minL (n / 256)).length = k + 1 := ⟨(minL (n / 256)).length - 1, by omega⟩
      simp only [List.length_append, List.length_cons, List.length_nil, hk]
      rw [hk] at this
      simp only [Nat.add_sub_cancel] at this ⊢
      rw [Nat.pow_succ]
      generalize 256 ^ k = B at *
      omega
theorem be_lo {l : List UInt8} (h : 0 < l.length) (hz : bt l 0 ≠ 0) : 256 ^ (l.length - 1) ≤ be l := by
  match l, h with
  | x :: t, _ =>
    rw [be_cons]
    have hx : 1 ≤ x.toNat := by
      unfold bt at hz; simp at hz; omega
    simp only [List.length_cons, Nat.add_sub_cancel]
    have := Nat.mul_le_mul_right (256 ^ t.length) hx
    omega
theorem pow_lt_len {a b : Nat} (h : (256 : Nat) ^ a < 256 ^ b) : a < b := (Nat.pow_lt_pow_iff_right (by omega)).1 h
/-- minimal digits of digits without a zero ahead -/
theorem minL_be {l : List UInt8} (h : 0 < l.length) (hz : bt l 0 ≠ 0) (h8 : l.length ≤ 8) : minL (be l) = l := by
  have hlo := be_lo h hz
  have hhi := be_lt l
  have h64 := be_lt8 h8
  have h1 : 1 ≤ be l := Nat.le_trans (Nat.one_le_two_pow (n := 0)) (Nat.le_trans (Nat.one_le_pow _ _ (by omega)) hlo)
  have mlo := minL_lo _ h1 h64
  have mhi := be_lt (minL (be l))
  rw [be_minL h64] at mhi
  have hml := (minL_len (be l)).1
  apply be_inj
  · have a1 := pow_lt_len (Nat.lt_of_le_of_lt hlo mhi)
    have a2 := pow_lt_len (Nat.lt_of_le_of_lt mlo hhi)
    omega
  · exact be_minL h64
theorem minL_head {n : Nat} (h1 : 1 ≤ n) (h : n < W64) : bt (minL n) 0 ≠ 0 := by
  intro hz
  have hl := (minL_len n).1
  have hb := be_minL h
  have hlo := minL_lo n h1 h
  match hm : minL n, hl with
  | x :: t, _ =>
    rw [hm] at hz hb hlo
    rw [be_cons] at hb
    have hx : x.toNat = 0 := by unfold bt at hz; simpa using hz
    have ht := be_lt t
    rw [hx] at hb
    simp only [List.length_cons, Nat.add_sub_cancel] at hlo
    omega

/-- length octets, read: the length, their number, an error's code and offset -/
def rl (l : List UInt8) : Int × Int × Int × Int :=
  if l.length = 0 then (0, 0, 1, 0)
  else if bt l 0 < 128 then (bt l 0, 1, 0, 0)
  else if bt l 0 = 128 ∨ 132 < bt l 0 then (0, 0, 4, 0)
  else if (l.length : Int) ≤ bt l 0 - 128 then (0, 0, 1, (l.length : Int))
  else if bt l 1 = 0 ∨ be ((l.drop 1).take (bt l 0 - 128).toNat) < 128 ∨ 2147483647 < be ((l.drop 1).take (bt l 0 - 128).toNat) then (0, 0, 4, 0)
  else (((be ((l.drop 1).take (bt l 0 - 128).toNat) : Nat) : Int), 1 + (bt l 0 - 128), 0, 0)
theorem rl_nil {l : List UInt8} (h : l.length = 0) : rl l = (0, 0, 1, 0) := by unfold rl; rw [if_pos h]
theorem rl_short {l : List UInt8} (h : 0 < l.length) (h1 : bt l 0 < 128) : rl l = (bt l 0, 1, 0, 0) := by unfold rl; rw [if_neg (by omega), if_pos h1]
theorem rl_form {l : List UInt8} (h : 0 < l.length) (h1 : bt l 0 = 128 ∨ 132 < bt l 0) : rl l = (0, 0, 4, 0) := by unfold rl; rw [if_neg (by omega), if_neg (by omega), if_pos h1]
theorem rl_cut {l : List UInt8} {k : Nat} (h : 0 < l.length) (hk : bt l 0 = 128 + (k : Int)) (k1 : 1 ≤ k) (k2 : k ≤ 4) (hl : l.length ≤ k) : rl l = (0, 0, 1, (l.length : Int)) := by
  unfold rl; rw [if_neg (by omega), if_neg (by omega), if_neg (by omega), if_pos (by omega)]
theorem rl_bad {l : List UInt8} {k : Nat} (hk : bt l 0 = 128 + (k : Int)) (k1 : 1 ≤ k) (k2 : k ≤ 4) (hl : k < l.length) (hb : bt l 1 = 0 ∨ be ((l.drop 1).take k) < 128 ∨ 2147483647 < be ((l.drop 1).take k)) : rl l = (0, 0, 4, 0) := by
  have e : (bt l 0 - 128).toNat = k := by omega
  unfold rl; rw [if_neg (by omega), if_neg (by omega), if_neg (by omega), if_neg (by omega), e, if_pos hb]
theorem rl_ok {l : List UInt8} {k : Nat} (hk : bt l 0 = 128 + (k : Int)) (k1 : 1 ≤ k) (k2 : k ≤ 4) (hl : k < l.length) (hb : ¬ (bt l 1 = 0 ∨ be ((l.drop 1).take k) < 128 ∨ 2147483647 < be ((l.drop 1).take k))) :
    rl l = (((be ((l.drop 1).take k) : Nat) : Int), 1 + (k : Int), 0, 0) := by
  have e : (bt l 0 - 128).toNat = k := by omega
  have e2 : bt l 0 - 128 = (k : Int) := by omega
  unfold rl; rw [if_neg (by omega), if_neg (by omega), if_neg (by omega), if_neg (by omega), e, if_neg hb, e2]
/-- the reference's test: the octets are those of the length -/
theorem len_iff {l : List UInt8} {k : Nat} (hk : bt l 0 = 128 + (k : Int)) (k1 : 1 ≤ k) (k2 : k ≤ 4) (hl : k < l.length) (hm : be ((l.drop 1).take k) ≤ 2147483647) :
    lenL ((be ((l.drop 1).take k) : Nat) : Int) = l.take (1 + k) ↔ ¬ (bt l 1 = 0 ∨ be ((l.drop 1).take k) < 128) := by
  have hdl : ((l.drop 1).take k).length = k := by rw [List.length_take, List.length_drop]; omega
  have h64 : be ((l.drop 1).take k) < W64 := be_lt8 (by omega)
  have hb1 : bt ((l.drop 1).take k) 0 = bt l 1 := by rw [bt_take (by omega), bt_drop]
  have htk : l.take (1 + k) = ofI (128 + (k : Int)) :: (l.drop 1).take k := by
    match l, hl with
    | x :: t, _ =>
      have hx : ofI (128 + (k : Int)) = x := by rw [← hk]; rw [ofI_bt]; rfl
      rw [hx, Nat.add_comm]; rfl
  constructor
  · intro he hor
    by_cases hs : be ((l.drop 1).take k) < 128
    · rw [(len_short (by omega) (by omega)).1] at he
      rw [show (((be ((l.drop 1).take k) : Nat) : Int)).toNat = be ((l.drop 1).take k) from by omega, minL_small (by omega)] at he
      have := congrArg List.length he
      rw [htk] at this
      simp only [List.length_cons, List.length_nil, hdl] at this
      omega
    · rw [(len_long (by omega) (by omega)).1, htk] at he
      rw [show (((be ((l.drop 1).take k) : Nat) : Int)).toNat = be ((l.drop 1).take k) from by omega] at he
      injection he with _ he
      have := minL_head (n := be ((l.drop 1).take k)) (by omega) h64
      rw [he, hb1] at this
      omega
  · intro hno
    have hz : bt ((l.drop 1).take k) 0 ≠ 0 := by rw [hb1]; omega
    rw [(len_long (by omega) (by omega)).1, htk]
    rw [show (((be ((l.drop 1).take k) : Nat) : Int)).toNat = be ((l.drop 1).take k) from by omega, minL_be (by omega) hz (by omega), hdl]
end Go.Proofs.Ytiogcdpmgomllaa.Tlv
