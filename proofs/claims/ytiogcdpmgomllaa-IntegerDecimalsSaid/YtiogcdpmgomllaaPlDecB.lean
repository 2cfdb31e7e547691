/- Plain laws of decimal notation, read back. No program in sight. -/
import Derived.Test.YtiogcdpmgomllaaPlDec
set_option linter.unusedSimpArgs false
set_option linter.unusedVariables false
namespace Go.Proofs.Ytiogcdpmgomllaa.Int4
open Kit Cur Tlv

/-- is it a digit? -/
def isD (x : UInt8) : Bool := decide (48 ≤ x.toNat) && decide (x.toNat ≤ 57)
/-- the number that digits denote -/
def decV (s : List UInt8) : Nat := s.foldl (fun v x => v * 10 + (x.toNat - 48)) 0
theorem decV_snoc (s : List UInt8) (x : UInt8) : decV (s ++ [x]) = decV s * 10 + (x.toNat - 48) := by unfold decV; rw [List.foldl_append]; rfl
theorem decV_take {s : List UInt8} {k : Nat} (h : k < s.length) : decV (s.take (k + 1)) = decV (s.take k) * 10 + (s[k].toNat - 48) := by
  rw [List.take_succ_eq_append_getElem h, decV_snoc]
theorem digit_nat {d : Nat} (h : d < 10) : (ofI (48 + (d : Int))).toNat = 48 + d := by
  have := ofI_toNat (x := 48 + (d : Int)) (by omega) (by omega)
  omega
/-- the digits of a number denote it -/
theorem decL_back : ∀ n : Nat, decV (decL n) = n ∧ (decL n).all isD = true ∧ 1 ≤ (decL n).length := by
  intro n
  induction n using Nat.strongRecOn with
  | _ n ih =>
    by_cases h : n < 10
    · rw [decL_small h]
      have e := digit_nat h
      refine ⟨?_, ?_, by simp⟩
      · show 0 * 10 + ((ofI (48 + (n : Int))).toNat - 48) = n
        omega
      · simp only [List.all_cons, List.all_nil, Bool.and_true, isD, Bool.and_eq_true, decide_eq_true_eq]
        omega
    · obtain ⟨a, b, c⟩ := ih (n / 10) (by omega)
      rw [decL_big h]
      have e := digit_nat (d := n % 10) (by omega)
      refine ⟨?_, ?_, by simp⟩
      · rw [decV_snoc, a]; omega
      · rw [List.all_append, b]
        simp only [List.all_cons, List.all_nil, Bool.and_true, Bool.true_and, isD, Bool.and_eq_true, decide_eq_true_eq]
        omega
/-- a sign, and what is behind it -/
def hasS (s : List UInt8) : Bool := match s with | [] => false | x :: _ => decide (x.toNat = 45)
def numS (s : List UInt8) : List UInt8 := if hasS s = true then s.drop 1 else s
def valS (s : List UInt8) : Int := if hasS s = true then -((decV (numS s) : Nat) : Int) else ((decV (numS s) : Nat) : Int)
theorem digits_sign {s : List UInt8} (h : s.all isD = true) : hasS s = false := by
  cases s with
  | nil => rfl
  | cons x t =>
    simp only [List.all_cons, Bool.and_eq_true, isD, decide_eq_true_eq] at h
    simp only [hasS, decide_eq_false_iff_not]
    omega
/-- the decimal notation of a valid one denotes its value -/
theorem dec_val {c : List UInt8} (hv : validI c = true) : (numS (decI c)).all isD = true ∧ valS (decI c) = sv c ∧ decI c ≠ [] := by
  unfold decI
  rw [if_neg (by simp [hv])]
  by_cases g : 128 ≤ bt c 0
  · rw [if_pos g]
    obtain ⟨a, b, d⟩ := decL_back (256 ^ c.length - be c)
    have hs : hasS (45 :: decL (256 ^ c.length - be c)) = true := rfl
    have hn : numS (45 :: decL (256 ^ c.length - be c)) = decL (256 ^ c.length - be c) := by unfold numS; rw [if_pos hs]; rfl
    refine ⟨by rw [hn]; exact b, ?_, by simp⟩
    unfold valS
    rw [if_pos hs, hn, a, sv_neg g]
    have := be_lt c
    unfold beI pw
    omega
  · rw [if_neg g]
    obtain ⟨a, b, d⟩ := decL_back (be c)
    have hs := digits_sign b
    have hn : numS (decL (be c)) = decL (be c) := by unfold numS; rw [if_neg (by simp [hs])]
    refine ⟨by rw [hn]; exact b, ?_, by intro h; rw [h] at d; simp at d⟩
    unfold valS
    rw [if_neg (by simp [hs]), hn, a, sv_pos g]
    rfl
/-- what ParseDecimal returns: octets, and a code -/
def ParS (s u : List UInt8) (code : Int) : Prop :=
  (code = 0 ∧ validI u = true ∧ decI u = s) ∨ (code = 11 ∧ u = [] ∧ ∀ c, validI c = true → decI c ≠ s)
theorem ParS.bad {s : List UInt8} (h : (numS s).all isD = false) : ParS s [] 11 := by
  refine .inr ⟨rfl, rfl, fun c hv e => ?_⟩
  have := (dec_val hv).1
  rw [e, h] at this
  cases this
theorem ParS.no {s c : List UInt8} (hv : validI c = true) (hs : sv c = valS s) (hn : decI c ≠ s) : ParS s [] 11 := by
  refine .inr ⟨rfl, rfl, fun d hd e => ?_⟩
  have h := (dec_val hd).2.1
  rw [e] at h
  have := sv_inj hd hv (by rw [← h, hs])
  subst this
  exact hn e
theorem ParS.yes {s c : List UInt8} (hv : validI c = true) (he : decI c = s) : ParS s c 0 := .inl ⟨rfl, hv, he⟩
theorem decI_inj {a b : List UInt8} (ha : validI a = true) (hb : validI b = true) (h : decI a = decI b) : a = b :=
  sv_inj ha hb (by rw [← (dec_val ha).2.1, ← (dec_val hb).2.1, h])
theorem ParS.same {s u u' : List UInt8} {k k' : Int} (h : ParS s u k) (h' : ParS s u' k') : u = u' ∧ k = k' := by
  rcases h with ⟨rfl, a, b⟩ | ⟨rfl, rfl, b⟩ <;> rcases h' with ⟨rfl, a', b'⟩ | ⟨rfl, rfl, b'⟩
  · exact ⟨decI_inj a a' (by rw [b, b']), rfl⟩
  · exact absurd b (b' _ a)
  · exact absurd b' (b _ a')
  · exact ⟨rfl, rfl⟩
/-- what is not valid has no decimal notation, and that is none of a number -/
theorem ParS.empty {u : List UInt8} {k : Int} (h : ParS [] u k) : k = 11 ∧ u = [] := by
  rcases h with ⟨-, a, b⟩ | ⟨a, b, -⟩
  · exact absurd b (dec_val a).2.2
  · exact ⟨a, b⟩
theorem ParS.back {c u : List UInt8} {k : Int} (hv : validI c = true) (h : ParS (decI c) u k) : k = 0 ∧ u = c := by
  obtain ⟨a, b⟩ := h.same (ParS.yes hv rfl)
  exact ⟨b, a⟩
/-- digits with a number added, from the last one on -/
def AddR (l m : List UInt8) (j : Nat) (x cy : Int) : Prop :=
  m.length = l.length ∧ m.take j = l.take j ∧ beI (m.drop j) + cy * pw (l.length - j) = beI (l.drop j) + x ∧ 0 ≤ cy
theorem AddR.start (l : List UInt8) (x : Int) (h : 0 ≤ x) : AddR l l l.length x x := by
  refine ⟨rfl, rfl, ?_, h⟩
  rw [List.drop_length, Nat.sub_self, pw_zero, beI_nil]
  omega
theorem drop_beI' {l : List UInt8} {j : Nat} (h : j < l.length) : beI (l.drop j) = bt l j * pw (l.length - (j + 1)) + beI (l.drop (j + 1)) := by
  rw [List.drop_eq_getElem_cons h, beI_cons, List.length_drop, bt_eq h]
theorem AddR.at_ {l m : List UInt8} {j : Nat} {x cy : Int} (h : AddR l m (j + 1) x cy) (hj : j < l.length) : bt m j = bt l j := by
  have h1 : bt (m.take (j + 1)) j = bt (l.take (j + 1)) j := by rw [h.2.1]
  rwa [bt_take (by omega), bt_take (by omega)] at h1
theorem AddR.step {l m : List UInt8} {j : Nat} {x cy : Int} (h : AddR l m (j + 1) x cy) (hj : j < l.length) :
    AddR l (m.set j (ofI ((cy + bt l j) % 256))) j x ((cy + bt l j) / 256) := by
  obtain ⟨h1, h2, h3, h4⟩ := h
  have b0 := bt_lo l j
  have b1 := bt_hi l j
  refine ⟨by simp [h1], ?_, ?_, by omega⟩
  · have := congrArg (List.take j) h2
    rw [List.take_take, List.take_take, Nat.min_eq_left (by omega)] at this
    rw [List.take_set_of_le (Nat.le_refl _)]
    exact this
  · have hm : j < (m.set j (ofI ((cy + bt l j) % 256))).length := by simp; omega
    rw [drop_beI' hm, drop_beI' hj, List.length_set, h1, List.drop_set_of_lt (by omega)]
    have e : bt (m.set j (ofI ((cy + bt l j) % 256))) j = (cy + bt l j) % 256 := by
      rw [bt_eq hm, List.getElem_set_self, ofI_toNat (by omega) (by omega)]
    rw [e]
    have hp : pw (l.length - j) = pw (l.length - (j + 1)) * 256 := by
      rw [show l.length - j = (l.length - (j + 1)) + 1 from by omega, pw_succ]
    rw [hp]
    have h5 : (cy + bt l j) % 256 + (cy + bt l j) / 256 * 256 = cy + bt l j := by omega
    generalize pw (l.length - (j + 1)) = P at *
    have e2 : (cy + bt l j) % 256 * P + (cy + bt l j) / 256 * (P * 256) = (cy + bt l j) * P := by
      rw [← Int.mul_assoc, Int.mul_right_comm, ← Int.add_mul, h5]
    have e3 : (cy + bt l j) * P = cy * P + bt l j * P := Int.add_mul _ _ _
    omega
theorem AddR.stop {l m : List UInt8} {x cy : Int} (h : AddR l m 0 x cy) : m.length = l.length ∧ beI m + cy * pw l.length = beI l + x ∧ 0 ≤ cy := by
  obtain ⟨h1, h2, h3, h4⟩ := h
  rw [List.drop_zero, List.drop_zero, Nat.sub_zero] at h3
  exact ⟨h1, h3, h4⟩
end Go.Proofs.Ytiogcdpmgomllaa.Int4
