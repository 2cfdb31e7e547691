/- Plain laws of the contents octets of integers: valid ones, their values, their order, their octets. No program in sight. -/
import Derived.Test.YtiogcdpmgomllaaPlTlvB
set_option linter.unusedSimpArgs false
set_option linter.unusedVariables false
namespace Go.Proofs.Ytiogcdpmgomllaa.Int4
open Kit Cur Tlv

/-- 256 to the k, as an integer -/
def pw (k : Nat) : Int := ((256 ^ k : Nat) : Int)
theorem pw_zero : pw 0 = 1 := rfl
theorem pw_succ (k : Nat) : pw (k + 1) = pw k * 256 := by unfold pw; rw [Nat.pow_succ]; omega
theorem pw_pos (k : Nat) : 1 ≤ pw k := by unfold pw; have : 0 < 256 ^ k := Nat.pow_pos (by omega); omega
theorem pw_le {a b : Nat} (h : a ≤ b) : pw a ≤ pw b := by unfold pw; have := Nat.pow_le_pow_right (n := 256) (by omega) h; omega
/-- the number of digits, as an integer -/
def beI (l : List UInt8) : Int := ((be l : Nat) : Int)
theorem beI_nil : beI [] = 0 := rfl
theorem beI_cons (x : UInt8) (l : List UInt8) : beI (x :: l) = (x.toNat : Int) * pw l.length + beI l := by
  unfold beI pw; rw [be_cons]; simp
theorem beI_snoc (l : List UInt8) (x : UInt8) : beI (l ++ [x]) = beI l * 256 + (x.toNat : Int) := by unfold beI; rw [be_snoc]; simp
theorem beI_bd (l : List UInt8) : 0 ≤ beI l ∧ beI l < pw l.length := by unfold beI pw; have := be_lt l; omega
theorem beI_inj {a b : List UInt8} (hl : a.length = b.length) (h : beI a = beI b) : a = b := be_inj hl (by unfold beI at h; omega)

/-- is the sign bit set? -/
def neg (l : List UInt8) : Bool := decide (128 ≤ bt l 0)
def validI (l : List UInt8) : Bool :=
  decide (l.length = 1) || (decide (2 ≤ l.length) && !(decide (bt l 0 = 0) && decide (bt l 1 < 128)) && !(decide (bt l 0 = 255) && decide (128 ≤ bt l 1)))
theorem valid_nil {l : List UInt8} (h : l.length = 0) : validI l = false := by unfold validI; simp [h]
theorem valid_one {l : List UInt8} (h : l.length = 1) : validI l = true := by unfold validI; simp [h]
theorem valid_two {l : List UInt8} (h : 2 ≤ l.length) : validI l = (!(decide (bt l 0 = 0) && decide (bt l 1 < 128)) && !(decide (bt l 0 = 255) && decide (128 ≤ bt l 1))) := by
  unfold validI; simp [h, show ¬ l.length = 1 from by omega]
theorem valid_iff {l : List UInt8} : validI l = true ↔ l.length = 1 ∨ (2 ≤ l.length ∧ ¬ (bt l 0 = 0 ∧ bt l 1 < 128) ∧ ¬ (bt l 0 = 255 ∧ 128 ≤ bt l 1)) := by
  rcases (by omega : l.length = 0 ∨ l.length = 1 ∨ 2 ≤ l.length) with h | h | h
  · rw [valid_nil h]; simp; omega
  · rw [valid_one h]; simp [h]
  · rw [valid_two h]
    simp only [Bool.and_eq_true, Bool.not_eq_true', Bool.and_eq_false_iff, decide_eq_false_iff_not]
    constructor
    · rintro ⟨a, b⟩; exact .inr ⟨h, by omega, by omega⟩
    · rintro (h1 | ⟨_, a, b⟩)
      · omega
      · exact ⟨by omega, by omega⟩
theorem valid_pos {l : List UInt8} (h : validI l = true) : 1 ≤ l.length := by rcases valid_iff.1 h with h | h <;> omega

/-- the value -/
def sv (l : List UInt8) : Int := beI l - (if neg l = true then pw l.length else 0)
theorem neg_yes {l : List UInt8} (h : 128 ≤ bt l 0) : neg l = true := by unfold neg; simp [h]
theorem neg_no {l : List UInt8} (h : ¬ 128 ≤ bt l 0) : neg l = false := by unfold neg; simp; omega
theorem sv_neg {l : List UInt8} (h : 128 ≤ bt l 0) : sv l = beI l - pw l.length := by unfold sv; rw [neg_yes h]; simp
theorem sv_pos {l : List UInt8} (h : ¬ 128 ≤ bt l 0) : sv l = beI l := by unfold sv; rw [neg_no h]; simp
/-- the two highest digits, and what is below -/
theorem beI_two {l : List UInt8} {k : Nat} (h : l.length = k + 2) : ∃ r, beI l = (bt l 0 * 256 + bt l 1) * pw k + r ∧ 0 ≤ r ∧ r < pw k := by
  match l, h with
  | x :: y :: t, h =>
    have ht : t.length = k := by simpa using h
    refine ⟨beI t, ?_, ?_⟩
    · rw [beI_cons, beI_cons, List.length_cons, pw_succ, ht]
      show _ = ((x.toNat : Int) * 256 + (y.toNat : Int)) * pw k + beI t
      rw [Int.add_mul, Int.mul_assoc, Int.mul_comm 256 (pw k)]
      omega
    · have := beI_bd t; rw [ht] at this; exact this
theorem beI_one {l : List UInt8} (h : l.length = 1) : beI l = bt l 0 := by
  match l, h with
  | [x], _ => rw [beI_cons, beI_nil]; show (x.toNat : Int) * 1 + 0 = (x.toNat : Int); omega
/-- how great the value of a valid one is, by its length -/
theorem sv_range {l : List UInt8} (h : validI l = true) : (¬ 128 ≤ bt l 0 → 0 ≤ sv l ∧ sv l < 128 * pw (l.length - 1) ∧ (2 ≤ l.length → 128 * pw (l.length - 2) ≤ sv l)) ∧
    (128 ≤ bt l 0 → sv l < 0 ∧ -(128 * pw (l.length - 1)) ≤ sv l ∧ (2 ≤ l.length → sv l < -(128 * pw (l.length - 2)))) := by
  have b0 := bt_lo l 0
  have b0' := bt_hi l 0
  have b1 := bt_lo l 1
  have b1' := bt_hi l 1
  rcases valid_iff.1 h with h1 | ⟨h2, v1, v2⟩
  · have e := beI_one h1
    have p0 : pw (l.length - 1) = 1 := by rw [h1]; rfl
    have p1 : pw l.length = 256 := by rw [h1]; rfl
    refine ⟨fun hn => ?_, fun hn => ?_⟩
    · rw [sv_pos hn, p0]; omega
    · rw [sv_neg hn, p0, p1]; omega
  · obtain ⟨k, hk⟩ : ∃ k, l.length = k + 2 := ⟨l.length - 2, by omega⟩
    obtain ⟨r, e, r0, r1⟩ := beI_two hk
    have e1 : pw (l.length - 1) = pw k * 256 := by rw [hk]; exact pw_succ k
    have e2 : pw (l.length - 2) = pw k := by rw [hk]; rfl
    have e3 : pw l.length = pw k * 256 * 256 := by rw [hk, pw_succ, pw_succ]
    have pp := pw_pos k
    have sp := fun h => sv_pos (l := l) h
    have sn := fun h => sv_neg (l := l) h
    generalize pw k = P at *
    generalize bt l 0 = x at *
    generalize bt l 1 = y at *
    refine ⟨fun hn => ?_, fun hn => ?_⟩
    · rw [sp hn, e1, e2, e]
      have m1 : (x * 256 + y) * P ≤ (127 * 256 + 255) * P := Int.mul_le_mul_of_nonneg_right (by omega) (by omega)
      have m2 : 128 * P ≤ (x * 256 + y) * P := Int.mul_le_mul_of_nonneg_right (by omega) (by omega)
      refine ⟨by omega, by omega, fun _ => by omega⟩
    · rw [sn hn, e1, e2, e3, e]
      have m1 : (x * 256 + y) * P ≤ (255 * 256 + 127) * P := Int.mul_le_mul_of_nonneg_right (by omega) (by omega)
      have m2 : 128 * 256 * P ≤ (x * 256 + y) * P := Int.mul_le_mul_of_nonneg_right (by omega) (by omega)
      refine ⟨by omega, by omega, fun _ => by omega⟩
theorem sv_len {a b : List UInt8} (ha : validI a = true) (hb : validI b = true) (e : sv a = sv b) : ¬ a.length < b.length := by
  intro hl
  obtain ⟨a1, a2⟩ := sv_range ha
  obtain ⟨b1, b2⟩ := sv_range hb
  have := valid_pos ha
  have hp := pw_le (show a.length - 1 ≤ b.length - 2 from by omega)
  by_cases ga : 128 ≤ bt a 0 <;> by_cases gb : 128 ≤ bt b 0
  · have x := a2 ga; have y := (b2 gb).2.2 (by omega); omega
  · have x := a2 ga; have y := b1 gb; omega
  · have x := a1 ga; have y := b2 gb; omega
  · have x := a1 ga; have y := (b1 gb).2.2 (by omega); omega
/-- a valid one is known by its value -/
theorem sv_inj {a b : List UInt8} (ha : validI a = true) (hb : validI b = true) (e : sv a = sv b) : a = b := by
  have h1 := sv_len ha hb e
  have h2 := sv_len hb ha e.symm
  have hl : a.length = b.length := by omega
  obtain ⟨a1, a2⟩ := sv_range ha
  obtain ⟨b1, b2⟩ := sv_range hb
  apply beI_inj hl
  by_cases ga : 128 ≤ bt a 0 <;> by_cases gb : 128 ≤ bt b 0
  · rw [sv_neg ga, sv_neg gb, hl] at e; omega
  · have := (a2 ga).1; have := (b1 gb).1; omega
  · have := (a1 ga).1; have := (b2 gb).1; omega
  · rw [sv_pos ga, sv_pos gb] at e; omega

theorem bt_left {l m : List UInt8} {k : Nat} (h : k < l.length) : bt (l ++ m) k = bt l k := by
  unfold bt; simp [List.getD, List.getElem?_append_left h]
/-- the last octet -/
theorem sv_snoc {l : List UInt8} (h : 1 ≤ l.length) (x : UInt8) : sv (l ++ [x]) = sv l * 256 + (x.toNat : Int) := by
  have e : bt (l ++ [x]) 0 = bt l 0 := bt_left h
  by_cases g : 128 ≤ bt l 0
  · rw [sv_neg g, sv_neg (by rw [e]; exact g), beI_snoc, List.length_append, List.length_singleton, pw_succ]; omega
  · rw [sv_pos g, sv_pos (by rw [e]; exact g), beI_snoc]
/-- a first octet that is none too many -/
theorem sv_drop {l : List UInt8} (h : 2 ≤ l.length) (hv : validI l = false) : sv (l.drop 1) = sv l := by
  have b0 := bt_lo l 0
  have b0' := bt_hi l 0
  have b1 := bt_lo l 1
  have b1' := bt_hi l 1
  have hv' : ¬ validI l = true := by simp [hv]
  rw [valid_iff] at hv'
  match l, h with
  | x :: y :: t, _ =>
    have e0 : bt (x :: y :: t) 0 = (x.toNat : Int) := rfl
    have e1 : bt (x :: y :: t) 1 = (y.toNat : Int) := rfl
    have e2 : bt (y :: t) 0 = (y.toNat : Int) := rfl
    rw [e0] at hv'; rw [e1] at hv'
    rw [List.drop_succ_cons, List.drop_zero]
    by_cases g : 128 ≤ (y.toNat : Int)
    · rw [sv_neg (l := y :: t) g]
      have hx : (x.toNat : Int) = 255 := by omega
      have p1 : pw (x :: y :: t).length = pw (y :: t).length * 256 := pw_succ _
      rw [sv_neg (l := x :: y :: t) (by rw [e0]; omega), beI_cons x, p1, hx]
      omega
    · rw [sv_pos (l := y :: t) g]
      have hx : (x.toNat : Int) = 0 := by omega
      rw [sv_pos (l := x :: y :: t) (by rw [e0]; omega), beI_cons x, hx]
      omega
/-- the contents octets without what is too many -/
def trimI : List UInt8 → List UInt8
  | [] => []
  | x :: t => if 1 ≤ t.length ∧ validI (x :: t) = false then trimI t else x :: t
theorem trim_go {l : List UInt8} (h : 2 ≤ l.length) (hv : validI l = false) : trimI l = trimI (l.drop 1) := by
  match l, h with
  | x :: t, h => rw [trimI, if_pos ⟨by simpa using h, hv⟩, List.drop_succ_cons, List.drop_zero]
theorem trim_stop {l : List UInt8} (h : ¬ (2 ≤ l.length ∧ validI l = false)) : trimI l = l := by
  cases l with
  | nil => rfl
  | cons x t => rw [trimI, if_neg (by intro hh; exact h ⟨by simp; omega, hh.2⟩)]
theorem trim_ok : ∀ (l : List UInt8), 1 ≤ l.length → validI (trimI l) = true ∧ sv (trimI l) = sv l ∧ (trimI l).length ≤ l.length
  | [], h => by simp at h
  | x :: t, h => by
    by_cases g : 2 ≤ (x :: t).length ∧ validI (x :: t) = false
    · rw [trim_go g.1 g.2, List.drop_succ_cons, List.drop_zero]
      obtain ⟨a, b, c⟩ := trim_ok t (by have := g.1; simp at this; exact this)
      have := sv_drop g.1 g.2
      rw [List.drop_succ_cons, List.drop_zero] at this
      exact ⟨a, by rw [b, this], by simp; omega⟩
    · rw [trim_stop g]
      refine ⟨?_, rfl, Nat.le_refl _⟩
      rcases (by cases t <;> simp : (x :: t).length = 1 ∨ 2 ≤ (x :: t).length) with h1 | h2
      · exact valid_one h1
      · cases hv : validI (x :: t) with
        | true => rfl
        | false => exact absurd ⟨h2, hv⟩ g
/-- the contents octets of a number -/
def intF : Nat → Int → List UInt8
  | 0, n => [ofI (n % 256)]
  | f + 1, n => if -128 ≤ n ∧ n < 128 then [ofI (n % 256)] else intF f (n / 256) ++ [ofI (n % 256)]
def intL (n : Int) : List UInt8 := intF 7 n
theorem ofI_toNat' (n : Int) : ((ofI (n % 256)).toNat : Int) = n % 256 := ofI_toNat (by omega) (by omega)
theorem intF_small (f : Nat) {n : Int} (h : -128 ≤ n ∧ n < 128) : intF f n = [ofI (n % 256)] := by cases f <;> simp [intF, h]
theorem sv_one (n : Int) (h : -128 ≤ n ∧ n < 128) : validI [ofI (n % 256)] = true ∧ sv [ofI (n % 256)] = n := by
  refine ⟨valid_one rfl, ?_⟩
  have e : bt [ofI (n % 256)] 0 = n % 256 := ofI_toNat' n
  have eb := beI_one (l := [ofI (n % 256)]) rfl
  by_cases g : 128 ≤ bt [ofI (n % 256)] 0
  · rw [sv_neg g, eb]; rw [e] at g ⊢; show n % 256 - 256 = n; omega
  · rw [sv_pos g, eb]; rw [e] at g ⊢; omega
theorem bt_snoc1 {l : List UInt8} (x : UInt8) : bt (l ++ [x]) 1 = if l.length = 1 then (x.toNat : Int) else bt l 1 := by
  match l with
  | [] => rfl
  | [y] => rfl
  | y :: z :: t => simp [bt]
theorem intF_ok : ∀ (f : Nat) (n : Int), -(128 * pw f) ≤ n → n < 128 * pw f → validI (intF f n) = true ∧ sv (intF f n) = n ∧ (intF f n).length ≤ f + 1
  | 0, n, h0, h1 => by
    rw [pw_zero] at h0 h1
    obtain ⟨a, b⟩ := sv_one n (by omega)
    exact ⟨a, b, Nat.le_refl _⟩
  | f + 1, n, h0, h1 => by
    by_cases hs : -128 ≤ n ∧ n < 128
    · rw [intF_small _ hs]
      obtain ⟨a, b⟩ := sv_one n hs
      exact ⟨a, b, by simp⟩
    · rw [pw_succ] at h0 h1
      obtain ⟨a, b, c⟩ := intF_ok f (n / 256) (by omega) (by omega)
      rw [intF, if_neg hs]
      have hp := valid_pos a
      have hx := ofI_toNat' n
      refine ⟨?_, by rw [sv_snoc hp, b, hx]; omega, by simp; exact c⟩
      obtain ⟨r1, r2⟩ := sv_range a
      have e0 : bt (intF f (n / 256) ++ [ofI (n % 256)]) 0 = bt (intF f (n / 256)) 0 := bt_left hp
      have e1 := bt_snoc1 (l := intF f (n / 256)) (ofI (n % 256))
      rw [valid_iff, e0, e1]
      refine .inr ⟨by simp; omega, ?_⟩
      rcases valid_iff.1 a with h | ⟨h2, v1, v2⟩
      · rw [if_pos h, hx]
        have eb := beI_one h
        have p : pw (intF f (n / 256)).length = 256 := by rw [h]; rfl
        have y0 := bt_lo (intF f (n / 256)) 0
        have y1 := bt_hi (intF f (n / 256)) 0
        by_cases g : 128 ≤ bt (intF f (n / 256)) 0
        · rw [sv_neg g, eb, p] at b; omega
        · rw [sv_pos g, eb] at b; omega
      · rw [if_neg (by omega)]; exact ⟨v1, v2⟩
/-- the numbers of 64 bits -/
theorem intL_ok {n : Int} (h0 : -9223372036854775808 ≤ n) (h1 : n ≤ 9223372036854775807) : validI (intL n) = true ∧ sv (intL n) = n ∧ (intL n).length ≤ 8 := by
  have p : pw 7 = 72057594037927936 := by rfl
  exact intF_ok 7 n (by rw [p]; omega) (by rw [p]; omega)
theorem intF_more : ∀ (f : Nat) (n : Int), -(128 * pw f) ≤ n → n < 128 * pw f → intF (f + 1) n = intF f n
  | 0, n, h0, h1 => by
    rw [pw_zero] at h0 h1
    rw [intF_small _ (by omega), intF_small _ (by omega)]
  | f + 1, n, h0, h1 => by
    by_cases hs : -128 ≤ n ∧ n < 128
    · rw [intF_small _ hs, intF_small _ hs]
    · rw [pw_succ] at h0 h1
      have := intF_more f (n / 256) (by omega) (by omega)
      rw [intF, if_neg hs, this]
      conv => rhs; rw [intF, if_neg hs]
theorem intL_small {n : Int} (h : -128 ≤ n ∧ n < 128) : intL n = [ofI (n % 256)] := intF_small 7 h
theorem intL_big {n : Int} (h : ¬ (-128 ≤ n ∧ n < 128)) (h0 : -9223372036854775808 ≤ n) (h1 : n ≤ 9223372036854775807) : intL n = intL (n / 256) ++ [ofI (n % 256)] := by
  have p : pw 6 = 281474976710656 := by rfl
  have e : intF 7 (n / 256) = intF 6 (n / 256) := intF_more 6 (n / 256) (by rw [p]; omega) (by rw [p]; omega)
  unfold intL
  rw [e]
  conv => lhs; rw [intF, if_neg h]
/-- what has the value, is valid, is these octets -/
theorem intL_of {l : List UInt8} {n : Int} (h0 : -9223372036854775808 ≤ n) (h1 : n ≤ 9223372036854775807) (hv : validI l = true) (hs : sv l = n) : l = intL n := by
  obtain ⟨a, b, _⟩ := intL_ok h0 h1
  exact sv_inj hv a (by rw [hs, b])
/-- a number, divided again and again -/
def dv : Nat → Int → Int
  | 0, n => n
  | k + 1, n => dv k n / 256
theorem dv_0 (n : Int) : n = dv 0 n := rfl
theorem dv_1 (n : Int) : n / 256 = dv 1 n := rfl
theorem dv_2 (n : Int) : n / 65536 = dv 2 n := by show _ = dv 1 n / 256; rw [← dv_1]; omega
theorem dv_3 (n : Int) : n / 16777216 = dv 3 n := by show _ = dv 2 n / 256; rw [← dv_2]; omega
theorem dv_4 (n : Int) : n / 4294967296 = dv 4 n := by show _ = dv 3 n / 256; rw [← dv_3]; omega
theorem dv_5 (n : Int) : n / 1099511627776 = dv 5 n := by show _ = dv 4 n / 256; rw [← dv_4]; omega
theorem dv_6 (n : Int) : n / 281474976710656 = dv 6 n := by show _ = dv 5 n / 256; rw [← dv_5]; omega
theorem dv_7 (n : Int) : n / 72057594037927936 = dv 7 n := by show _ = dv 6 n / 256; rw [← dv_6]; omega
theorem dv_step (k : Nat) (n : Int) : dv k n = dv (k + 1) n * 256 + dv k n % 256 := by show _ = dv k n / 256 * 256 + _; omega
/-- eight octets, from the highest one on -/
def b8 (n : Int) : List UInt8 := [ofI (dv 7 n % 256), ofI (dv 6 n % 256), ofI (dv 5 n % 256), ofI (dv 4 n % 256), ofI (dv 3 n % 256), ofI (dv 2 n % 256), ofI (dv 1 n % 256), ofI (dv 0 n % 256)]
theorem beI_8 (a b c d e f g h : UInt8) : beI [a, b, c, d, e, f, g, h] = (((((((0 * 256 + (a.toNat : Int)) * 256 + (b.toNat : Int)) * 256 + (c.toNat : Int)) * 256 + (d.toNat : Int)) * 256 + (e.toNat : Int)) * 256 + (f.toNat : Int)) * 256 + (g.toNat : Int)) * 256 + (h.toNat : Int) := by
  rw [show [a, b, c, d, e, f, g, h] = ((((((([] ++ [a]) ++ [b]) ++ [c]) ++ [d]) ++ [e]) ++ [f]) ++ [g]) ++ [h] from rfl]
  simp only [beI_snoc, beI_nil]
theorem pw_8 (a b c d e f g h : UInt8) : pw [a, b, c, d, e, f, g, h].length = 18446744073709551616 := by
  simp only [List.length_cons, List.length_nil, pw_succ, pw_zero]; omega
theorem bt_h (x : UInt8) (l : List UInt8) : bt (x :: l) 0 = (x.toNat : Int) := rfl
theorem b8_sv {n : Int} (h0 : -9223372036854775808 ≤ n) (h1 : n ≤ 9223372036854775807) : sv (b8 n) = n := by
  have hb : beI (b8 n) = _ := beI_8 _ _ _ _ _ _ _ _
  simp only [ofI_toNat'] at hb
  have e0 : bt (b8 n) 0 = dv 7 n % 256 := by unfold b8; rw [bt_h, ofI_toNat']
  have p8 : pw (b8 n).length = 18446744073709551616 := pw_8 _ _ _ _ _ _ _ _
  have s0 := dv_step 0 n
  have s1 := dv_step 1 n
  have s2 := dv_step 2 n
  have s3 := dv_step 3 n
  have s4 := dv_step 4 n
  have s5 := dv_step 5 n
  have s6 := dv_step 6 n
  have s7 := dv_7 n
  rw [← dv_0] at s0 hb
  simp only [Nat.zero_add, Nat.reduceAdd] at s0 s1 s2 s3 s4 s5 s6
  have sn := sv_neg (l := b8 n)
  have sp := sv_pos (l := b8 n)
  rw [e0, p8, hb] at sn
  rw [e0, hb] at sp
  clear hb e0 p8
  generalize sv (b8 n) = S at *
  have r7 : -128 ≤ dv 7 n ∧ dv 7 n < 128 := by rw [← s7]; omega
  clear s7
  generalize dv 7 n = d7 at *
  generalize dv 6 n = d6 at *
  generalize dv 5 n = d5 at *
  generalize dv 4 n = d4 at *
  generalize dv 3 n = d3 at *
  generalize dv 2 n = d2 at *
  generalize dv 1 n = d1 at *
  generalize d6 % 256 = m6 at *
  generalize d5 % 256 = m5 at *
  generalize d4 % 256 = m4 at *
  generalize d3 % 256 = m3 at *
  generalize d2 % 256 = m2 at *
  generalize d1 % 256 = m1 at *
  generalize n % 256 = m0 at *
  by_cases g : 128 ≤ d7 % 256
  · rw [sn g]; omega
  · rw [sp g]; omega
theorem b8_trim {n : Int} (h0 : -9223372036854775808 ≤ n) (h1 : n ≤ 9223372036854775807) : trimI (b8 n) = intL n := by
  obtain ⟨a, b, _⟩ := trim_ok (b8 n) (by simp [b8])
  exact intL_of h0 h1 a (by rw [b, b8_sv h0 h1])
end Go.Proofs.Ytiogcdpmgomllaa.Int4
