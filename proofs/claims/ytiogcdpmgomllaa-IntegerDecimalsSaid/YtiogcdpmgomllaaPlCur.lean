/- Plain laws on lists of bytes: big-endian numbers, minimal digits, lexicographic comparison. No program in sight. -/
namespace Go.Proofs.Ytiogcdpmgomllaa.Cur

/-- 2 to the 64, 2 to the 56: behind names -/
def W64 : Nat := 18446744073709551616
def W56 : Nat := 72057594037927936

/-- the number with big-endian digits -/
def be (l : List UInt8) : Nat := l.foldl (fun n x => n * 256 + x.toNat) 0
theorem foldl_be (l : List UInt8) : ∀ a : Nat, l.foldl (fun n x => n * 256 + x.toNat) a = a * 256 ^ l.length + be l := by
  unfold be
  induction l with
  | nil => intro a; simp
  | cons x xs ih =>
    intro a
    rw [List.foldl_cons, List.foldl_cons, ih, ih (0 * 256 + x.toNat), List.length_cons, Nat.pow_succ]
    simp only [Nat.zero_mul, Nat.zero_add, Nat.add_mul]
    rw [Nat.mul_comm (256 ^ xs.length) 256, ← Nat.mul_assoc]
    omega
theorem be_nil : be [] = 0 := rfl
theorem be_snoc (l : List UInt8) (x : UInt8) : be (l ++ [x]) = be l * 256 + x.toNat := by unfold be; rw [List.foldl_append]; rfl
theorem be_append (l m : List UInt8) : be (l ++ m) = be l * 256 ^ m.length + be m := by
  conv => lhs; unfold be
  rw [List.foldl_append]
  exact foldl_be m (be l)
theorem be_cons (x : UInt8) (l : List UInt8) : be (x :: l) = x.toNat * 256 ^ l.length + be l := by
  have := be_append [x] l
  simpa [be] using this
theorem be_zero (l : List UInt8) : be (0 :: l) = be l := by rw [be_cons]; simp
theorem be_lt (l : List UInt8) : be l < 256 ^ l.length := by
  induction l with
  | nil => simp [be]
  | cons x xs ih =>
    rw [be_cons, List.length_cons, Nat.pow_succ]
    have hx := x.toNat_lt
    have hp : 0 < 256 ^ xs.length := Nat.pow_pos (by omega)
    have : x.toNat * 256 ^ xs.length ≤ 255 * 256 ^ xs.length := Nat.mul_le_mul_right _ (by omega)
    omega
theorem be_take_le (l : List UInt8) (k : Nat) : be (l.take k) ≤ be l := by
  have h := be_append (l.take k) (l.drop k)
  rw [List.take_append_drop] at h
  have hp : 1 ≤ 256 ^ (l.drop k).length := Nat.pow_pos (by omega)
  have : be (l.take k) * 1 ≤ be (l.take k) * 256 ^ (l.drop k).length := Nat.mul_le_mul_left _ hp
  omega
theorem take_succ_get {l : List UInt8} {k : Nat} (h : k < l.length) : l.take (k + 1) = l.take k ++ [l[k]] := by
  rw [List.take_succ_eq_append_getElem h]
theorem be_step {l : List UInt8} {k : Nat} (h : k < l.length) : be (l.take (k + 1)) = be (l.take k) * 256 + (l.getD k 0).toNat := by
  rw [take_succ_get h, be_snoc]; simp [List.getD, List.getElem?_eq_getElem h]
theorem be_big {l : List UInt8} {k : Nat} (h : k < l.length) (hb : W56 ≤ be (l.take k)) : W64 ≤ be l := by
  have h1 := be_take_le l (k + 1)
  have h2 := be_step h
  unfold W56 at hb; unfold W64
  omega
theorem be_small {l : List UInt8} {k : Nat} (h : k < l.length) (hb : be (l.take k) < W56) : be (l.take (k + 1)) < W64 := by
  have h2 := be_step h
  have := (l.getD k 0).toNat_lt
  unfold W56 at hb; unfold W64
  omega

theorem be_drop {l : List UInt8} (h : 0 < l.length) (hz : (l.getD 0 0).toNat = 0) : be (l.drop 1) = be l := by
  cases l with
  | nil => simp at h
  | cons x xs =>
    have hx : x = 0 := UInt8.toNat_inj.1 (by simpa using hz)
    subst hx
    rw [be_zero]; rfl
theorem be_ge {l : List UInt8} (h : 8 < l.length) (hz : (l.getD 0 0).toNat ≠ 0) : W64 ≤ be l := by
  cases l with
  | nil => simp at h
  | cons x xs =>
    rw [be_cons]
    have h1 : 1 ≤ x.toNat := by simp at hz; omega
    have h2 : 256 ^ 8 ≤ 256 ^ xs.length := Nat.pow_le_pow_right (by omega) (by simp at h; omega)
    have h3 : 1 * 256 ^ xs.length ≤ x.toNat * 256 ^ xs.length := Nat.mul_le_mul_right _ h1
    unfold W64
    omega
theorem be_lt8 {l : List UInt8} (h : l.length ≤ 8) : be l < W64 := by
  have h1 := be_lt l
  have h2 : 256 ^ l.length ≤ 256 ^ 8 := Nat.pow_le_pow_right (by omega) h
  unfold W64
  omega
theorem be_take_lt {l : List UInt8} (h : l.length ≤ 8) (k : Nat) : be (l.take k) < W64 := by
  have := be_take_le l k
  have := be_lt8 h
  omega

/-- what Uint returns -/
def uintV (l : List UInt8) : Int := if be l < W64 then (be l : Int) else 0
def uintOk (l : List UInt8) : Bool := decide (be l < W64)
theorem uint_yes {l : List UInt8} (h : be l < W64) : uintV l = be l ∧ uintOk l = true := by unfold uintV uintOk; rw [if_pos h]; simp [h]
theorem uint_no {l : List UInt8} (h : W64 ≤ be l) : uintV l = 0 ∧ uintOk l = false := by unfold uintV uintOk; rw [if_neg (by omega)]; simp; omega

/-- the minimal big-endian digits of a number -/
def minN : Nat → Nat → List UInt8
  | 0, n => [UInt8.ofNat n]
  | f + 1, n => if n < 256 then [UInt8.ofNat n] else minN f (n / 256) ++ [UInt8.ofNat (n % 256)]
def minL (n : Nat) : List UInt8 := minN 7 n
theorem minN_small (f : Nat) {n : Nat} (h : n < 256) : minN f n = [UInt8.ofNat n] := by cases f <;> simp [minN, h]
theorem minN_more : ∀ (f : Nat) (n : Nat), n < 256 ^ (f + 1) → minN (f + 1) n = minN f n
  | 0, n, h => by rw [minN_small 1 (by simpa using h), minN_small 0 (by simpa using h)]
  | f + 1, n, h => by
    by_cases hn : n < 256
    · rw [minN_small _ hn, minN_small _ hn]
    · have hd : n / 256 < 256 ^ (f + 1) := by
        rw [Nat.div_lt_iff_lt_mul (by omega)]; rw [Nat.pow_succ] at h; exact h
      have := minN_more f (n / 256) hd
      rw [minN, if_neg hn, this]
      conv => rhs; rw [minN, if_neg hn]
theorem minL_small {n : Nat} (h : n < 256) : minL n = [UInt8.ofNat n] := minN_small 7 h
theorem minL_big {n : Nat} (h : 256 ≤ n) (hb : n < W64) : minL n = minL (n / 256) ++ [UInt8.ofNat (n % 256)] := by
  unfold minL
  have e : minN 7 (n / 256) = minN 6 (n / 256) := minN_more 6 (n / 256) (by unfold W64 at hb; omega)
  rw [e]
  conv => lhs; rw [minN, if_neg (by omega)]
theorem minN_len : ∀ (f n : Nat), 1 ≤ (minN f n).length ∧ (minN f n).length ≤ f + 1
  | 0, n => by simp [minN]
  | f + 1, n => by
    by_cases h : n < 256
    · rw [minN_small _ h]; simp
    · rw [minN, if_neg h, List.length_append]; have := minN_len f (n / 256); simp; omega
theorem minL_len (n : Nat) : 1 ≤ (minL n).length ∧ (minL n).length ≤ 8 := minN_len 7 n
theorem be_minN : ∀ (f n : Nat), n < 256 ^ (f + 1) → be (minN f n) = n
  | 0, n, h => by simp [minN, be]; omega
  | f + 1, n, h => by
    by_cases hn : n < 256
    · rw [minN_small _ hn]; simp [be]; omega
    · rw [minN, if_neg hn, be_snoc, be_minN f (n / 256) (by rw [Nat.div_lt_iff_lt_mul (by omega)]; rw [Nat.pow_succ] at h; exact h)]
      simp
      omega
theorem be_minL {n : Nat} (h : n < W64) : be (minL n) = n := be_minN 7 n (by unfold W64 at h; omega)

/-- lexicographic comparison -/
def cmpL : List UInt8 → List UInt8 → Int
  | [], [] => 0
  | [], _ :: _ => -1
  | _ :: _, [] => 1
  | x :: xs, y :: ys => if x.toNat < y.toNat then -1 else if y.toNat < x.toNat then 1 else cmpL xs ys
theorem cmpL_neg : ∀ a b : List UInt8, cmpL b a = -(cmpL a b)
  | [], [] => rfl
  | [], _ :: _ => rfl
  | _ :: _, [] => rfl
  | x :: xs, y :: ys => by
    simp only [cmpL]
    have := cmpL_neg xs ys
    split <;> split <;> first | omega | rfl | (try omega)
theorem cmpL_self : ∀ a : List UInt8, cmpL a a = 0
  | [] => rfl
  | x :: xs => by simp [cmpL, cmpL_self xs]
theorem cmpL_zero : ∀ {a b : List UInt8}, cmpL a b = 0 → a = b
  | [], [], _ => rfl
  | [], _ :: _, h => by simp [cmpL] at h
  | _ :: _, [], h => by simp [cmpL] at h
  | x :: xs, y :: ys, h => by
    simp only [cmpL] at h
    split at h
    · simp at h
    · split at h
      · simp at h
      · have hxy : x = y := UInt8.toNat_inj.1 (by omega)
        rw [hxy, cmpL_zero h]
theorem cmpL_eq {a b : List UInt8} : cmpL a b = 0 ↔ a = b := ⟨cmpL_zero, fun h => by rw [h, cmpL_self]⟩
theorem cmpL_three : ∀ a b : List UInt8, cmpL a b = -1 ∨ cmpL a b = 0 ∨ cmpL a b = 1
  | [], [] => by simp [cmpL]
  | [], _ :: _ => by simp [cmpL]
  | _ :: _, [] => by simp [cmpL]
  | x :: xs, y :: ys => by
    simp only [cmpL]
    have := cmpL_three xs ys
    split
    · simp
    · split
      · simp
      · exact this
theorem cmpL_trans : ∀ {a b c : List UInt8}, cmpL a b ≤ 0 → cmpL b c ≤ 0 → cmpL a c ≤ 0
  | [], _, [], _, _ => by simp [cmpL]
  | [], _, _ :: _, _, _ => by simp [cmpL]
  | _ :: _, [], _, h, _ => by simp [cmpL] at h
  | _ :: _, _ :: _, [], _, h => by simp [cmpL] at h
  | x :: xs, y :: ys, z :: zs, h1, h2 => by
    simp only [cmpL] at h1 h2 ⊢
    have ih := @cmpL_trans xs ys zs
    by_cases a1 : x.toNat < y.toNat <;> by_cases a2 : y.toNat < x.toNat <;> by_cases b1 : y.toNat < z.toNat <;> by_cases b2 : z.toNat < y.toNat <;>
      by_cases c1 : x.toNat < z.toNat <;> by_cases c2 : z.toNat < x.toNat <;> simp [a1, a2, b1, b2, c1, c2] at h1 h2 ⊢ <;> first | omega | exact ih h1 h2
theorem cmpL_drop {a b : List UInt8} {k : Nat} (ha : k < a.length) (hb : k < b.length) :
    cmpL (a.drop k) (b.drop k) = if (a.getD k 0).toNat < (b.getD k 0).toNat then -1 else if (b.getD k 0).toNat < (a.getD k 0).toNat then 1 else cmpL (a.drop (k + 1)) (b.drop (k + 1)) := by
  rw [List.drop_eq_getElem_cons ha, List.drop_eq_getElem_cons hb]
  simp [cmpL, List.getD, List.getElem?_eq_getElem ha, List.getElem?_eq_getElem hb]
theorem cmpL_left {a b : List UInt8} (h : b.length < a.length) : cmpL (a.drop b.length) (b.drop b.length) = 1 := by
  rw [List.drop_eq_getElem_cons h, List.drop_length]; rfl
theorem cmpL_right {a b : List UInt8} (h : a.length < b.length) : cmpL (a.drop a.length) (b.drop a.length) = -1 := by
  rw [List.drop_eq_getElem_cons h, List.drop_length]; rfl
theorem cmpL_end {a b : List UInt8} (h : a.length = b.length) : cmpL (a.drop a.length) (b.drop a.length) = 0 := by
  rw [List.drop_length, h, List.drop_length]; rfl
/-- the order, as a Bool that the law asks -/
theorem cmpL_order (a b c : List UInt8) : 0 < cmpL a b ∨ 0 < cmpL b c ∨ cmpL a c ≤ 0 := by
  by_cases h1 : 0 < cmpL a b
  · exact .inl h1
  · by_cases h2 : 0 < cmpL b c
    · exact .inr (.inl h2)
    · exact .inr (.inr (cmpL_trans (b := b) (by omega) (by omega)))
end Go.Proofs.Ytiogcdpmgomllaa.Cur
