/- Joined texts: PlTlv, PlTlvB, TlvA, TlvB, TlvC. -/
import Derived.Handy
import Derived.Deep.CutRange
import Derived.WalkMore
import Derived.Test.YtoomdaljdbennaaKA
set_option linter.unusedSimpArgs false
set_option linter.unusedVariables false
/- Plain laws of identifier octets and length octets. No program in sight. -/
namespace Go.Proofs.Ytoomdaljdbennaa.Tlv
open Kit Cur

/-- an identifier octet, and its error -/
def idBad (c n : Int) : Prop := c < 0 ∨ 3 < c ∨ n < 0 ∨ 30 < n
instance (c n : Int) : Decidable (idBad c n) := by unfold idBad; infer_instance
def idCode (c n : Int) : Int := if idBad c n then 9 else 0
def idByte (c : Int) (b : Bool) (n : Int) : Int := if idBad c n then 0 else c * 64 + n + (if b = true then 32 else 0)
/-- an identifier octet, read -/
def ridC (x : Int) : Int := if x % 32 = 31 then 0 else x / 64
def ridB (x : Int) : Bool := if x % 32 = 31 then false else decide (x / 32 % 2 = 1)
def ridN (x : Int) : Int := if x % 32 = 31 then 0 else x % 32
def ridE (x : Int) : Int := if x % 32 = 31 then 3 else 0
theorem rid_bad {x : Int} (h : x % 32 = 31) : ridC x = 0 ∧ ridB x = false ∧ ridN x = 0 ∧ ridE x = 3 := by
  unfold ridC ridB ridN ridE; simp [h]
theorem rid_ok {x : Int} (h : ¬ x % 32 = 31) : ridC x = x / 64 ∧ ridB x = decide (x / 32 % 2 = 1) ∧ ridN x = x % 32 ∧ ridE x = 0 := by
  unfold ridC ridB ridN ridE; simp [h]
theorem id_bad {c n : Int} (b : Bool) (h : idBad c n) : idByte c b n = 0 ∧ idCode c n = 9 := by
  unfold idByte idCode; simp [h]
theorem id_ok {c n : Int} (b : Bool) (h : ¬ idBad c n) : idByte c b n = c * 64 + n + (if b = true then 32 else 0) ∧ idCode c n = 0 := by
  unfold idByte idCode; simp [h]
theorem id_bd (c : Int) (b : Bool) (n : Int) : 0 ≤ idByte c b n ∧ idByte c b n ≤ 255 := by
  unfold idByte idBad; repeat' split
  all_goals omega
/-- an identifier octet, read and written again -/
theorem id_back {x : Int} (h0 : 0 ≤ x) (h1 : x ≤ 255) (h : ridE x = 0) : idByte (ridC x) (ridB x) (ridN x) = x ∧ idCode (ridC x) (ridN x) = 0 := by
  have hx : ¬ x % 32 = 31 := by intro hh; rw [(rid_bad hh).2.2.2] at h; omega
  obtain ⟨e1, e2, e3, _⟩ := rid_ok hx
  have hb : ¬ idBad (ridC x) (ridN x) := by unfold idBad; omega
  obtain ⟨f1, f2⟩ := id_ok (ridB x) hb
  refine ⟨?_, f2⟩
  rw [f1, e1, e2, e3]
  by_cases h2 : x / 32 % 2 = 1 <;> simp [h2] <;> omega
/-- written and read again -/
theorem id_read {c n : Int} {b : Bool} (h : idCode c n = 0) : ridC (idByte c b n) = c ∧ ridB (idByte c b n) = b ∧ ridN (idByte c b n) = n ∧ ridE (idByte c b n) = 0 := by
  have hb : ¬ idBad c n := by intro hh; rw [(id_bad b hh).2] at h; omega
  obtain ⟨f1, _⟩ := id_ok b hb
  unfold idBad at hb
  rw [f1]
  cases b
  · simp only [Bool.false_eq_true, if_false]
    obtain ⟨e1, e2, e3, e4⟩ := rid_ok (x := c * 64 + n + 0) (by omega)
    refine ⟨by rw [e1]; omega, by rw [e2]; simp; omega, by rw [e3]; omega, e4⟩
  · simp only [if_true]
    obtain ⟨e1, e2, e3, e4⟩ := rid_ok (x := c * 64 + n + 32) (by omega)
    refine ⟨by rw [e1]; omega, by rw [e2]; simp; omega, by rw [e3]; omega, e4⟩
/-- length octets, and their error -/
def lenBad (n : Int) : Prop := n < 0 ∨ 2147483647 < n
instance (n : Int) : Decidable (lenBad n) := by unfold lenBad; infer_instance
def lenCode (n : Int) : Int := if lenBad n then 9 else 0
def lenL (n : Int) : List UInt8 := if lenBad n then [] else if n < 128 then minL n.toNat else ofI (128 + (minL n.toNat).length) :: minL n.toNat
theorem len_bad {n : Int} (h : lenBad n) : lenL n = [] ∧ lenCode n = 9 := by unfold lenL lenCode; simp [h]
theorem len_short {n : Int} (h0 : 0 ≤ n) (h : n < 128) : lenL n = minL n.toNat ∧ lenCode n = 0 := by
  have hb : ¬ lenBad n := by unfold lenBad; omega
  unfold lenL lenCode; simp [hb, h]
theorem len_long {n : Int} (h0 : 128 ≤ n) (h : n ≤ 2147483647) : lenL n = ofI (128 + (minL n.toNat).length) :: minL n.toNat ∧ lenCode n = 0 := by
  have hb : ¬ lenBad n := by unfold lenBad; omega
  unfold lenL lenCode; simp [hb, show ¬ n < 128 from by omega]
theorem len_bd (n : Int) : (lenL n).length ≤ 9 := by
  have := (minL_len n.toNat).2
  unfold lenL; repeat' split
  all_goals simp
  all_goals omega
end Go.Proofs.Ytoomdaljdbennaa.Tlv
/- Plain laws of length octets that are read. No program in sight. -/
namespace Go.Proofs.Ytoomdaljdbennaa.Tlv
open Kit Cur

theorem be_inj : ∀ {a b : List UInt8}, a.length = b.length → be a = be b → a = b
  | [], [], _, _ => rfl
  | x :: a, y :: b, hl, he => by
    rw [be_cons, be_cons] at he
    have hl' : a.length = b.length := by simpa using hl
    rw [hl'] at he
    have ha := be_lt a
    have hb := be_lt b
    rw [hl'] at ha
    generalize 256 ^ b.length = B at *
    have hxy : x.toNat = y.toNat := by
      rcases Nat.lt_trichotomy x.toNat y.toNat with h | h | h
      · have := Nat.mul_le_mul_right B (show x.toNat + 1 ≤ y.toNat from h)
        rw [Nat.add_mul] at this
        omega
      · exact h
      · have := Nat.mul_le_mul_right B (show y.toNat + 1 ≤ x.toNat from h)
        rw [Nat.add_mul] at this
        omega
    rw [hxy] at he
    have := be_inj hl' (by omega)
    rw [this, UInt8.toNat_inj.1 hxy]
  | [], _ :: _, hl, _ => by simp at hl
  | _ :: _, [], hl, _ => by simp at hl
theorem minL_lo (n : Nat) : 1 ≤ n → n < W64 → 256 ^ ((minL n).length - 1) ≤ n := by
  induction n using Nat.strongRecOn with
  | ind n ih =>
    intro h1 h2
    by_cases hs : n < 256
    · rw [minL_small hs]; simpa using h1
    · rw [minL_big (by omega) h2]
      have hl := (minL_len (n / 256)).1
      have := ih (n / 256) (by omega) (by omega) (by unfold W64 at h2 ⊢; omega)
      obtain ⟨k, hk⟩ : ∃ k, (minL (n / 256)).length = k + 1 := ⟨(minL (n / 256)).length - 1, by omega⟩
      simp only [List.length_append, List.length_cons, List.length_nil, hk]
      rw [hk] at this
      simp only [Nat.add_sub_cancel] at this ⊢
      rw [Nat.pow_succ]
      generalize 256 ^ k = B at *
      omega
theorem be_lo {l : List UInt8} (h : 0 < l.length) (hz : bt l 0 ≠ 0) : 256 ^ (l.length - 1) ≤ be l := by
  match l, h with
  | x :: t, _ =>
    rw [be_cons]
    have hx : 1 ≤ x.toNat := by
      unfold bt at hz; simp at hz; omega
    simp only [List.length_cons, Nat.add_sub_cancel]
    have := Nat.mul_le_mul_right (256 ^ t.length) hx
    omega
theorem pow_lt_len {a b : Nat} (h : (256 : Nat) ^ a < 256 ^ b) : a < b := (Nat.pow_lt_pow_iff_right (by omega)).1 h
/-- minimal digits of digits without a zero ahead -/
theorem minL_be {l : List UInt8} (h : 0 < l.length) (hz : bt l 0 ≠ 0) (h8 : l.length ≤ 8) : minL (be l) = l := by
  have hlo := be_lo h hz
  have hhi := be_lt l
  have h64 := be_lt8 h8
  have h1 : 1 ≤ be l := Nat.le_trans (Nat.one_le_two_pow (n := 0)) (Nat.le_trans (Nat.one_le_pow _ _ (by omega)) hlo)
  have mlo := minL_lo _ h1 h64
  have mhi := be_lt (minL (be l))
  rw [be_minL h64] at mhi
  have hml := (minL_len (be l)).1
  apply be_inj
  · have a1 := pow_lt_len (Nat.lt_of_le_of_lt hlo mhi)
    have a2 := pow_lt_len (Nat.lt_of_le_of_lt mlo hhi)
    omega
  · exact be_minL h64
theorem minL_head {n : Nat} (h1 : 1 ≤ n) (h : n < W64) : bt (minL n) 0 ≠ 0 := by
  intro hz
  have hl := (minL_len n).1
  have hb := be_minL h
  have hlo := minL_lo n h1 h
  match hm : minL n, hl with
  | x :: t, _ =>
    rw [hm] at hz hb hlo
    rw [be_cons] at hb
    have hx : x.toNat = 0 := by unfold bt at hz; simpa using hz
    have ht := be_lt t
    rw [hx] at hb
    simp only [List.length_cons, Nat.add_sub_cancel] at hlo
    omega

/-- length octets, read: the length, their number, an error's code and offset -/
def rl (l : List UInt8) : Int × Int × Int × Int :=
  if l.length = 0 then (0, 0, 1, 0)
  else if bt l 0 < 128 then (bt l 0, 1, 0, 0)
  else if bt l 0 = 128 ∨ 132 < bt l 0 then (0, 0, 4, 0)
  else if (l.length : Int) ≤ bt l 0 - 128 then (0, 0, 1, (l.length : Int))
  else if bt l 1 = 0 ∨ be ((l.drop 1).take (bt l 0 - 128).toNat) < 128 ∨ 2147483647 < be ((l.drop 1).take (bt l 0 - 128).toNat) then (0, 0, 4, 0)
  else (((be ((l.drop 1).take (bt l 0 - 128).toNat) : Nat) : Int), 1 + (bt l 0 - 128), 0, 0)
theorem rl_nil {l : List UInt8} (h : l.length = 0) : rl l = (0, 0, 1, 0) := by unfold rl; rw [if_pos h]
theorem rl_short {l : List UInt8} (h : 0 < l.length) (h1 : bt l 0 < 128) : rl l = (bt l 0, 1, 0, 0) := by unfold rl; rw [if_neg (by omega), if_pos h1]
theorem rl_form {l : List UInt8} (h : 0 < l.length) (h1 : bt l 0 = 128 ∨ 132 < bt l 0) : rl l = (0, 0, 4, 0) := by unfold rl; rw [if_neg (by omega), if_neg (by omega), if_pos h1]
theorem rl_cut {l : List UInt8} {k : Nat} (h : 0 < l.length) (hk : bt l 0 = 128 + (k : Int)) (k1 : 1 ≤ k) (k2 : k ≤ 4) (hl : l.length ≤ k) : rl l = (0, 0, 1, (l.length : Int)) := by
  unfold rl; rw [if_neg (by omega), if_neg (by omega), if_neg (by omega), if_pos (by omega)]
theorem rl_bad {l : List UInt8} {k : Nat} (hk : bt l 0 = 128 + (k : Int)) (k1 : 1 ≤ k) (k2 : k ≤ 4) (hl : k < l.length) (hb : bt l 1 = 0 ∨ be ((l.drop 1).take k) < 128 ∨ 2147483647 < be ((l.drop 1).take k)) : rl l = (0, 0, 4, 0) := by
  have e : (bt l 0 - 128).toNat = k := by omega
  unfold rl; rw [if_neg (by omega), if_neg (by omega), if_neg (by omega), if_neg (by omega), e, if_pos hb]
theorem rl_ok {l : List UInt8} {k : Nat} (hk : bt l 0 = 128 + (k : Int)) (k1 : 1 ≤ k) (k2 : k ≤ 4) (hl : k < l.length) (hb : ¬ (bt l 1 = 0 ∨ be ((l.drop 1).take k) < 128 ∨ 2147483647 < be ((l.drop 1).take k))) :
    rl l = (((be ((l.drop 1).take k) : Nat) : Int), 1 + (k : Int), 0, 0) := by
  have e : (bt l 0 - 128).toNat = k := by omega
  have e2 : bt l 0 - 128 = (k : Int) := by omega
  unfold rl; rw [if_neg (by omega), if_neg (by omega), if_neg (by omega), if_neg (by omega), e, if_neg hb, e2]
/-- the reference's test: the octets are those of the length -/
theorem len_iff {l : List UInt8} {k : Nat} (hk : bt l 0 = 128 + (k : Int)) (k1 : 1 ≤ k) (k2 : k ≤ 4) (hl : k < l.length) (hm : be ((l.drop 1).take k) ≤ 2147483647) :
    lenL ((be ((l.drop 1).take k) : Nat) : Int) = l.take (1 + k) ↔ ¬ (bt l 1 = 0 ∨ be ((l.drop 1).take k) < 128) := by
  have hdl : ((l.drop 1).take k).length = k := by rw [List.length_take, List.length_drop]; omega
  have h64 : be ((l.drop 1).take k) < W64 := be_lt8 (by omega)
  have hb1 : bt ((l.drop 1).take k) 0 = bt l 1 := by rw [bt_take (by omega), bt_drop]
  have htk : l.take (1 + k) = ofI (128 + (k : Int)) :: (l.drop 1).take k := by
    match l, hl with
    | x :: t, _ =>
      have hx : ofI (128 + (k : Int)) = x := by rw [← hk]; rw [ofI_bt]; rfl
      rw [hx, Nat.add_comm]; rfl
  constructor
  · intro he hor
    by_cases hs : be ((l.drop 1).take k) < 128
    · rw [(len_short (by omega) (by omega)).1] at he
      rw [show (((be ((l.drop 1).take k) : Nat) : Int)).toNat = be ((l.drop 1).take k) from by omega, minL_small (by omega)] at he
      have := congrArg List.length he
      rw [htk] at this
      simp only [List.length_cons, List.length_nil, hdl] at this
      omega
    · rw [(len_long (by omega) (by omega)).1, htk] at he
      rw [show (((be ((l.drop 1).take k) : Nat) : Int)).toNat = be ((l.drop 1).take k) from by omega] at he
      injection he with _ he
      have := minL_head (n := be ((l.drop 1).take k)) (by omega) h64
      rw [he, hb1] at this
      omega
  · intro hno
    have hz : bt ((l.drop 1).take k) 0 ≠ 0 := by rw [hb1]; omega
    rw [(len_long (by omega) (by omega)).1, htk]
    rw [show (((be ((l.drop 1).take k) : Nat) : Int)).toNat = be ((l.drop 1).take k) from by omega, minL_be (by omega) hz (by omega), hdl]
end Go.Proofs.Ytoomdaljdbennaa.Tlv
/- Walks: identifier octets, of tlv and of its reference. -/
namespace Go.Proofs.Ytoomdaljdbennaa.Tlv
open Go.RowKit Kit

theorem or_id {c n : Int} (h0 : 0 ≤ c) (h1 : c ≤ 3) (h2 : 0 ≤ n) (h3 : n ≤ 30) : bits .or .i64 (c * 64) n = c * 64 + n := by
  have : ∀ (a : Fin 4) (b : Fin 31), bits .or .i64 (((a.1 : Nat) : Int) * 64) ((b.1 : Nat) : Int) = ((a.1 : Nat) : Int) * 64 + ((b.1 : Nat) : Int) := by decide +kernel
  obtain ⟨a, rfl⟩ := Int.eq_ofNat_of_zero_le h0
  obtain ⟨b, rfl⟩ := Int.eq_ofNat_of_zero_le h2
  exact this ⟨a, by omega⟩ ⟨b, by omega⟩
theorem or_cons {c n : Int} (h0 : 0 ≤ c) (h1 : c ≤ 3) (h2 : 0 ≤ n) (h3 : n ≤ 30) : bits .or .u8 (c * 64 + n) 32 = c * 64 + n + 32 := by
  have : ∀ (a : Fin 4) (b : Fin 31), bits .or .u8 (((a.1 : Nat) : Int) * 64 + ((b.1 : Nat) : Int)) 32 = ((a.1 : Nat) : Int) * 64 + ((b.1 : Nat) : Int) + 32 := by decide +kernel
  obtain ⟨a, rfl⟩ := Int.eq_ofNat_of_zero_le h0
  obtain ⟨b, rfl⟩ := Int.eq_ofNat_of_zero_le h2
  exact this ⟨a, by omega⟩ ⟨b, by omega⟩
theorem and_31 {x : Int} (h0 : 0 ≤ x) (h1 : x ≤ 255) : bits .and .u8 x 31 = x % 32 := by
  have : ∀ a : Fin 256, bits .and .u8 ((a.1 : Nat) : Int) 31 = ((a.1 : Nat) : Int) % 32 := by decide +kernel
  obtain ⟨a, rfl⟩ := Int.eq_ofNat_of_zero_le h0
  exact this ⟨a, by omega⟩
theorem and_32 {x : Int} (h0 : 0 ≤ x) (h1 : x ≤ 255) : bits .and .u8 x 32 = x / 32 % 2 * 32 := by
  have : ∀ a : Fin 256, bits .and .u8 ((a.1 : Nat) : Int) 32 = ((a.1 : Nat) : Int) / 32 % 2 * 32 := by decide +kernel
  obtain ⟨a, rfl⟩ := Int.eq_ofNat_of_zero_le h0
  exact this ⟨a, by omega⟩

theorem id_cases (c n : Int) : c < 0 ∨ (¬ c < 0 ∧ 3 < c) ∨ (¬ c < 0 ∧ ¬ 3 < c ∧ n < 0) ∨ (¬ c < 0 ∧ ¬ 3 < c ∧ ¬ n < 0 ∧ 30 < n) ∨ (0 ≤ c ∧ c ≤ 3 ∧ 0 ≤ n ∧ n ≤ 30) := by omega

set_option maxHeartbeats 400000 in
theorem ident_any (c n : Int) (b : Bool) (w : World) :
    Calls Try.prog 40 #[.int .i64 c, .bool b, .int .i64 n] w fun e w' => e = .returned (.tuple #[.int .u8 (idByte c b n), .int .i64 (idCode c n)]) ∧ w = w' := by
  rcases id_cases c n with h | h | h | h | ⟨h0, h1, h2, h3⟩
  case inr.inr.inr.inr =>
    have F := Lib.hid (id_ok b (show ¬ idBad c n from by unfold idBad; omega))
    have o1 := or_id h0 h1 h2 h3
    have o2 := or_cons h0 h1 h2 h3
    have h31 : ¬ 31 ≤ n := by omega
    cases b
    all_goals
      go_enter Try.func40, Try.ntmps40
      go_wp2
      go_ret2
      exact ⟨ret2 (vint (by rw [F.out.1]; simp)) (vint F.out.2.symm), rfl⟩
  case inl =>
    have F := Lib.hid (id_bad b (show idBad c n from by unfold idBad; omega))
    go_enter Try.func40, Try.ntmps40
    go_wp2
    go_ret2
    exact ⟨ret2 (vint F.out.1.symm) (vint F.out.2.symm), rfl⟩
  case inr.inl =>
    have F := Lib.hid (id_bad b (show idBad c n from by unfold idBad; omega))
    obtain ⟨g1, g2⟩ := h
    go_enter Try.func40, Try.ntmps40
    go_wp2
    go_ret2
    exact ⟨ret2 (vint F.out.1.symm) (vint F.out.2.symm), rfl⟩
  case inr.inr.inl =>
    have F := Lib.hid (id_bad b (show idBad c n from by unfold idBad; omega))
    obtain ⟨g1, g2, g3⟩ := h
    go_enter Try.func40, Try.ntmps40
    go_wp2
    go_ret2
    exact ⟨ret2 (vint F.out.1.symm) (vint F.out.2.symm), rfl⟩
  case inr.inr.inr.inl =>
    have F := Lib.hid (id_bad b (show idBad c n from by unfold idBad; omega))
    obtain ⟨g1, g2, g3, g4⟩ := h
    have g5 : 31 ≤ n := by omega
    go_enter Try.func40, Try.ntmps40
    go_wp2
    go_ret2
    exact ⟨ret2 (vint F.out.1.symm) (vint F.out.2.symm), rfl⟩

set_option maxHeartbeats 400000 in
theorem refident_any (c n : Int) (b : Bool) (w : World) :
    Calls Try.prog 34 #[.int .i64 c, .bool b, .int .i64 n] w fun e w' => e = .returned (.tuple #[.int .u8 (idByte c b n), .int .i64 (idCode c n)]) ∧ w = w' := by
  rcases id_cases c n with h | h | h | h | ⟨h0, h1, h2, h3⟩
  case inr.inr.inr.inr =>
    have F := Lib.hid (id_ok b (show ¬ idBad c n from by unfold idBad; omega))
    cases b
    all_goals
      go_enter Try.func34, Try.ntmps34
      go_wp2
      go_ret2
      exact ⟨ret2 (vint (by rw [F.out.1]; simp)) (vint F.out.2.symm), rfl⟩
  case inl =>
    have F := Lib.hid (id_bad b (show idBad c n from by unfold idBad; omega))
    go_enter Try.func34, Try.ntmps34
    go_wp2
    go_ret2
    exact ⟨ret2 (vint F.out.1.symm) (vint F.out.2.symm), rfl⟩
  case inr.inl =>
    have F := Lib.hid (id_bad b (show idBad c n from by unfold idBad; omega))
    obtain ⟨g1, g2⟩ := h
    go_enter Try.func34, Try.ntmps34
    go_wp2
    go_ret2
    exact ⟨ret2 (vint F.out.1.symm) (vint F.out.2.symm), rfl⟩
  case inr.inr.inl =>
    have F := Lib.hid (id_bad b (show idBad c n from by unfold idBad; omega))
    obtain ⟨g1, g2, g3⟩ := h
    go_enter Try.func34, Try.ntmps34
    go_wp2
    go_ret2
    exact ⟨ret2 (vint F.out.1.symm) (vint F.out.2.symm), rfl⟩
  case inr.inr.inr.inl =>
    have F := Lib.hid (id_bad b (show idBad c n from by unfold idBad; omega))
    obtain ⟨g1, g2, g3, g4⟩ := h
    go_enter Try.func34, Try.ntmps34
    go_wp2
    go_ret2
    exact ⟨ret2 (vint F.out.1.symm) (vint F.out.2.symm), rfl⟩

theorem ret4 {a b c d a' b' c' d' : Value} (h1 : a = a') (h2 : b = b') (h3 : c = c') (h4 : d = d') : Ending.returned (.tuple #[a, b, c, d]) = .returned (.tuple #[a', b', c', d']) := by rw [h1, h2, h3, h4]

set_option maxHeartbeats 400000 in
theorem readid_any (x : Int) (w : World) (h0 : 0 ≤ x) (h1 : x ≤ 255) :
    Calls Try.prog 51 #[.int .u8 x] w fun e w' => e = .returned (.tuple #[.int .i64 (ridC x), .bool (ridB x), .int .i64 (ridN x), .int .i64 (ridE x)]) ∧ w = w' := by
  have a1 := and_31 h0 h1
  have a2 := and_32 h0 h1
  by_cases hx : x % 32 = 31
  · have F := Lib.hid (rid_bad hx)
    go_enter Try.func51, Try.ntmps51
    go_wp2
    refine bodyPost_ret (v := .tuple #[.int .i64 0, .bool false, .int .i64 0, .int .i64 3]) (by simp [results, Try.results51, go_sem, *]) rfl ?_
    exact ⟨ret4 (vint F.out.1.symm) (vbool F.out.2.1.symm) (vint F.out.2.2.1.symm) (vint F.out.2.2.2.symm), rfl⟩
  · have F := Lib.hid (rid_ok hx)
    have hb : (x / 32 % 2 * 32 != 0) = decide (x / 32 % 2 = 1) := by
      rcases (by omega : x / 32 % 2 = 0 ∨ x / 32 % 2 = 1) with h | h <;> rw [h] <;> rfl
    go_enter Try.func51, Try.ntmps51
    go_wp2
    refine bodyPost_ret (v := .tuple #[.int .i64 (x / 64), .bool (decide (x / 32 % 2 = 1)), .int .i64 (x % 32), .int .i64 0]) (by simp [results, Try.results51, go_sem, *]) rfl ?_
    exact ⟨ret4 (vint F.out.1.symm) (vbool F.out.2.1.symm) (vint F.out.2.2.1.symm) (vint F.out.2.2.2.symm), rfl⟩

set_option maxHeartbeats 400000 in
theorem refreadid_any (x : Int) (w : World) (h0 : 0 ≤ x) (h1 : x ≤ 255) :
    Calls Try.prog 57 #[.int .u8 x] w fun e w' => e = .returned (.tuple #[.int .i64 (ridC x), .bool (ridB x), .int .i64 (ridN x), .int .i64 (ridE x)]) ∧ w = w' := by
  have d1 : x.tmod 32 = x % 32 := Int.tmod_eq_emod_of_nonneg h0
  have d2 : x.tdiv 64 = x / 64 := Int.tdiv_eq_ediv_of_nonneg h0
  have d3 : x.tdiv 32 = x / 32 := Int.tdiv_eq_ediv_of_nonneg h0
  have d4 : (x / 32).tmod 2 = x / 32 % 2 := Int.tmod_eq_emod_of_nonneg (by omega)
  by_cases hx : x % 32 = 31
  · have F := Lib.hid (rid_bad hx)
    go_enter Try.func57, Try.ntmps57
    go_wp2
    refine bodyPost_ret (v := .tuple #[.int .i64 0, .bool false, .int .i64 0, .int .i64 3]) (by simp [results, Try.results57, go_sem, *]) rfl ?_
    exact ⟨ret4 (vint F.out.1.symm) (vbool F.out.2.1.symm) (vint F.out.2.2.1.symm) (vint F.out.2.2.2.symm), rfl⟩
  · have F := Lib.hid (rid_ok hx)
    have hb : (x / 32 % 2 == 1) = decide (x / 32 % 2 = 1) := by
      rcases (by omega : x / 32 % 2 = 0 ∨ x / 32 % 2 = 1) with h | h <;> rw [h] <;> rfl
    go_enter Try.func57, Try.ntmps57
    go_wp2
    refine bodyPost_ret (v := .tuple #[.int .i64 (x / 64), .bool (decide (x / 32 % 2 = 1)), .int .i64 (x % 32), .int .i64 0]) (by simp [results, Try.results57, go_sem, *]) rfl ?_
    exact ⟨ret4 (vint F.out.1.symm) (vbool F.out.2.1.symm) (vint F.out.2.2.1.symm) (vint F.out.2.2.2.symm), rfl⟩
end Go.Proofs.Ytoomdaljdbennaa.Tlv
/- Walks: length octets, of tlv and of its reference. -/
namespace Go.Proofs.Ytoomdaljdbennaa.Tlv
open Go.RowKit Kit

theorem lit1 {base : Nat} (w : World) (x : Int) (h0 : 0 ≤ x) (h1 : x ≤ 255) (hb : base ≤ w.heap.size) :
    Own (w.alloc (.cells #[.int .u8 x] 5)) base (some ⟨w.heap.size, 0, none⟩) 1 1 [ofI x] := by
  have h := Own.lit (base := base) w [ofI x] hb (by simp [maxLen])
  rw [show vs [ofI x] = [x].map (Value.int .u8) from vs_ofI [x] (in1 h0 h1)] at h
  exact h

set_option maxRecDepth 100000 in
set_option maxHeartbeats 1000000 in
theorem length_any (n : Int) (w : World) :
    Calls Try.prog 47 #[.int .i64 n] w fun e w' => ∃ A c, e = .returned (.tuple #[.slice A (lenL n).length c, .int .i64 (lenCode n)]) ∧ Own w' w.heap.size A (lenL n).length c (lenL n) ∧ Below w.heap.size w w' := by
  by_cases h0 : n < 0
  · have F := Lib.hid (len_bad (n := n) (.inl h0))
    go_enter Try.func47, Try.ntmps47
    go_wp2
    go_ret2
    rw [F.out.1]
    exact ⟨none, 0, ret2 rfl (vint F.out.2.symm), Own.none_ _ _, (by repeat' (first | (with_reducible exact Below.refl _ _) | (with_reducible assumption) | (with_reducible refine below_drewN ?_ _) | (with_reducible refine Below.drew ?_) | (with_reducible refine Below.alloc ?_ ?_ _) | (with_reducible refine Below.setCell ?_ ?_ _) | go_size))⟩
  by_cases h1 : 2147483647 < n
  · have F := Lib.hid (len_bad (n := n) (.inr h1))
    go_enter Try.func47, Try.ntmps47
    go_wp2
    go_ret2
    rw [F.out.1]
    exact ⟨none, 0, ret2 rfl (vint F.out.2.symm), Own.none_ _ _, (by repeat' (first | (with_reducible exact Below.refl _ _) | (with_reducible assumption) | (with_reducible refine below_drewN ?_ _) | (with_reducible refine Below.drew ?_) | (with_reducible refine Below.alloc ?_ ?_ _) | (with_reducible refine Below.setCell ?_ ?_ _) | go_size))⟩
  have hn0 : 0 ≤ n := by omega
  by_cases h2 : n < 128
  · have F := Lib.hid (len_short hn0 h2)
    obtain ⟨v, rfl⟩ := Int.eq_ofNat_of_zero_le hn0
    have M := Lib.hid (fun w => Cur.minimal_any v w (by unfold Cur.W64; omega))
    have F1 := Lib.hid (show lenL (v : Int) = Cur.minL v from F.out.1)
    have F2 := Lib.hid F.out.2
    clear F
    go_enter Try.func47, Try.ntmps47
    go_wp2_with (go_at_call 54; refine (M.out _).mono ?_; rintro e w1 ⟨A, c, rfl, ho, hb⟩)
    go_ret2
    rw [F1.out]
    exact ⟨A, c, ret2 rfl (vint F2.out.symm), ho, hb⟩
  · have F := Lib.hid (len_long (by omega) (by omega : n ≤ 2147483647))
    obtain ⟨v, rfl⟩ := Int.eq_ofNat_of_zero_le hn0
    have M := Lib.hid (fun w => Cur.minimal_any v w (by unfold Cur.W64; omega))
    have F1 := Lib.hid (show lenL (v : Int) = ofI (128 + (Cur.minL v).length) :: Cur.minL v from F.out.1)
    have F2 := Lib.hid F.out.2
    obtain ⟨k1, k2⟩ := Cur.minL_len v
    obtain ⟨k, hk⟩ : ∃ k, (Cur.minL v).length = k := ⟨_, rfl⟩
    rw [hk] at M F1 k1 k2
    have HK := Lib.hid hk
    clear F hk
    go_enter Try.func47, Try.ntmps47
    go_wp2_with (first | (go_at_call 54; refine (M.out _).mono ?_; rintro e w1 ⟨A, c, rfl, ho, hb⟩) | (at_builtin; refine app rfl (.tmp 21) (.tmp 22) rfl rfl (lit1 (base := w.heap.size) w1 (128 + (k : Int)) (by omega) (by omega) hb.size) rfl (ho.alloc _).rd (by omega) (by simp; have := hb.size; omega) ?_; intro A' c' w2 ho' hg' hb' hs'))
    go_ret2
    have e : (lenL (v : Int)).length = 1 + k := by rw [F1.out, List.length_cons, HK.out]; omega
    rw [e]
    refine ⟨A', c', ret2 rfl (vint F2.out.symm), ?_, (hb.alloc hb.size _).trans hb'⟩
    rw [F1.out]
    exact ho'

set_option maxRecDepth 100000 in
set_option maxHeartbeats 1000000 in
theorem reflength_any (n : Int) (w : World) :
    Calls Try.prog 43 #[.int .i64 n] w fun e w' => ∃ A c, e = .returned (.tuple #[.slice A (lenL n).length c, .int .i64 (lenCode n)]) ∧ Own w' w.heap.size A (lenL n).length c (lenL n) ∧ Below w.heap.size w w' := by
  by_cases h0 : n < 0
  · have F := Lib.hid (len_bad (n := n) (.inl h0))
    go_enter Try.func43, Try.ntmps43
    go_wp2
    go_ret2
    rw [F.out.1]
    exact ⟨none, 0, ret2 rfl (vint F.out.2.symm), Own.none_ _ _, (by repeat' (first | (with_reducible exact Below.refl _ _) | (with_reducible assumption) | (with_reducible refine below_drewN ?_ _) | (with_reducible refine Below.drew ?_) | (with_reducible refine Below.alloc ?_ ?_ _) | (with_reducible refine Below.setCell ?_ ?_ _) | go_size))⟩
  by_cases h1 : 2147483647 < n
  · have F := Lib.hid (len_bad (n := n) (.inr h1))
    go_enter Try.func43, Try.ntmps43
    go_wp2
    go_ret2
    rw [F.out.1]
    exact ⟨none, 0, ret2 rfl (vint F.out.2.symm), Own.none_ _ _, (by repeat' (first | (with_reducible exact Below.refl _ _) | (with_reducible assumption) | (with_reducible refine below_drewN ?_ _) | (with_reducible refine Below.drew ?_) | (with_reducible refine Below.alloc ?_ ?_ _) | (with_reducible refine Below.setCell ?_ ?_ _) | go_size))⟩
  have hn0 : 0 ≤ n := by omega
  by_cases h2 : n < 128
  · have F := Lib.hid (len_short hn0 h2)
    obtain ⟨v, rfl⟩ := Int.eq_ofNat_of_zero_le hn0
    have M := Lib.hid (fun w => Cur.refminimal_any v w (by unfold Cur.W64; omega))
    have F1 := Lib.hid (show lenL (v : Int) = Cur.minL v from F.out.1)
    have F2 := Lib.hid F.out.2
    clear F
    go_enter Try.func43, Try.ntmps43
    go_wp2_with (go_at_call 50; refine (M.out _).mono ?_; rintro e w1 ⟨A, c, rfl, ho, hb⟩)
    go_ret2
    rw [F1.out]
    exact ⟨A, c, ret2 rfl (vint F2.out.symm), ho, hb⟩
  · have F := Lib.hid (len_long (by omega) (by omega : n ≤ 2147483647))
    obtain ⟨v, rfl⟩ := Int.eq_ofNat_of_zero_le hn0
    have M := Lib.hid (fun w => Cur.refminimal_any v w (by unfold Cur.W64; omega))
    have F1 := Lib.hid (show lenL (v : Int) = ofI (128 + (Cur.minL v).length) :: Cur.minL v from F.out.1)
    have F2 := Lib.hid F.out.2
    obtain ⟨k1, k2⟩ := Cur.minL_len v
    obtain ⟨k, hk⟩ : ∃ k, (Cur.minL v).length = k := ⟨_, rfl⟩
    rw [hk] at M F1 k1 k2
    have HK := Lib.hid hk
    clear F hk
    go_enter Try.func43, Try.ntmps43
    go_wp2_with (first | (go_at_call 50; refine (M.out _).mono ?_; rintro e w1 ⟨A, c, rfl, ho, hb⟩) | (at_builtin; refine app rfl (.tmp 21) (.tmp 22) rfl rfl (lit1 (base := w.heap.size) w1 (128 + (k : Int)) (by omega) (by omega) hb.size) rfl (ho.alloc _).rd (by omega) (by simp; have := hb.size; omega) ?_; intro A' c' w2 ho' hg' hb' hs'))
    go_ret2
    have e : (lenL (v : Int)).length = 1 + k := by rw [F1.out, List.length_cons, HK.out]; omega
    rw [e]
    refine ⟨A', c', ret2 rfl (vint F2.out.symm), ?_, (hb.alloc hb.size _).trans hb'⟩
    rw [F1.out]
    exact ho'
end Go.Proofs.Ytoomdaljdbennaa.Tlv
/- Walks: length octets, read by tlv. -/
namespace Go.Proofs.Ytoomdaljdbennaa.Tlv
open Go.RowKit Kit

abbrev err (code off : Int) : Value := .agg #[.int .i64 code, .int .i64 off]
theorem i64_or_nat (a b : Nat) (ha : a < 9223372036854775808) (hb : b < 9223372036854775808) : bits .or .i64 (a : Int) (b : Int) = ((a ||| b : Nat) : Int) := by
  have hx : a ||| b < 2 ^ 63 := Nat.or_lt_two_pow (by omega) (by omega)
  show IntKind.i64.wrap ((BitVec.ofInt 64 (a : Int) ||| BitVec.ofInt 64 (b : Int)).toNat : Int) = _
  have e : ∀ x : Nat, x < 9223372036854775808 → (BitVec.ofInt 64 (x : Int)).toNat = x := fun x hx => by
    rw [BitVec.ofInt_natCast, BitVec.toNat_ofNat]; exact Nat.mod_eq_of_lt (by omega)
  rw [BitVec.toNat_or, e a ha, e b hb]
  exact IntWalk.i64_in _ (by omega)
theorem i64_shl8_or (v : Nat) (b : Int) (hv : v < 36028797018963968) (h0 : 0 ≤ b) (h1 : b ≤ 255) : bits .or .i64 ((v : Int) * 256) b = (v : Int) * 256 + b := by
  have e : ((v : Int) * 256) = ((v * 256 : Nat) : Int) := by omega
  obtain ⟨c, rfl⟩ := Int.eq_ofNat_of_zero_le h0
  rw [e, i64_or_nat (v * 256) c (by omega) (by omega), nat_join 8 (v * 256) c (by omega) (by omega)]
  omega

theorem add_one (a : Addr) : a.add 1 = ⟨a.block, a.off + 1, none⟩ := by unfold Addr.add; rw [if_neg (by omega)]

theorem fail_any (c o : Int) (w : World) :
    Calls Try.prog 56 #[.int .i64 c, .int .i64 o] w fun e w' => e = .returned (.tuple #[.int .i64 0, .int .i64 0, err c o]) ∧ Below w.heap.size w w' := by
  go_enter Try.func56, Try.ntmps56
  go_wp2
  refine bodyPost_ret (v := .tuple #[.int .i64 0, .int .i64 0, err c o]) (by simp [results, Try.results56, go_sem, *]) rfl ?_
  exact ⟨rfl, (by repeat' (first | (with_reducible exact Below.refl _ _) | (with_reducible assumption) | (with_reducible refine below_drewN ?_ _) | (with_reducible refine Below.drew ?_) | (with_reducible refine Below.alloc ?_ ?_ _) | (with_reducible refine Below.setCell ?_ ?_ _) | go_size))⟩

/-- the tuple that ReadLength returns -/
abbrev rlV (r : Int × Int × Int × Int) : Value := .tuple #[.int .i64 r.1, .int .i64 r.2.1, err r.2.2.1 r.2.2.2]

set_option maxRecDepth 100000 in
set_option maxHeartbeats 2000000 in
theorem readlen_any {A : Option Addr} {n c B : Nat} {l : List UInt8} (w : World) (hr : Rd w B A n l) (hB : B ≤ w.heap.size) (hc : n ≤ c) (hm : c ≤ maxLen) :
    Calls Try.prog 52 #[.slice A n c] w fun e w' => e = .returned (rlV (rl l)) ∧ Below w.heap.size w w' := by
  have hl := hr.len
  unfold maxLen at hm
  have FA := Lib.hid fail_any
  by_cases h0 : n = 0
  · have E := Lib.hid (rl_nil (hl.trans h0))
    rw [E.out]
    subst h0
    clear hr hl
    go_enter Try.func52, Try.ntmps52
    go_wp2
    go_step3
    go_wp2_with (go_at_call 56; refine (FA.out _ _ _).mono ?_; rintro e w1 ⟨rfl, hb⟩; obtain ⟨k0, k1, f0, f1, s1, hb1⟩ := two_new hb)
    try rw [Exit.noGoto_ret]
    refine bodyPost_ret (v := rlV (0, 0, 1, 0)) (by simp [results, Try.results52, go_sem, *]) rfl ?_
    exact ⟨rfl, (by repeat' (first | (with_reducible exact Below.refl _ _) | (with_reducible assumption) | (with_reducible refine below_drewN ?_ _) | (with_reducible refine Below.drew ?_) | (with_reducible refine Below.alloc ?_ ?_ _) | (with_reducible refine Below.setCell ?_ ?_ _) | go_size))⟩
  obtain ⟨ad, rfl, hab, hcell⟩ := hr.all_ (by omega)
  have c0 : w.cell? ad = some (.int .u8 (bt l 0)) := by
    have := hcell 0 (by omega)
    rwa [show ad.add 0 = ad from by unfold Addr.add; rw [if_pos rfl]] at this
  have hab' : ad.block < w.heap.size := by omega
  have b0 := bt_lo l 0
  have b1 := bt_hi l 0
  have h0' : ¬ (n : Int) = 0 := by omega
  by_cases h1 : bt l 0 < 128
  · have E := Lib.hid (rl_short (l := l) (by omega) h1)
    rw [E.out]
    generalize bt l 0 = b at *
    clear hr hl hcell
    go_enter Try.func52, Try.ntmps52
    go_wp2
    go_step3
    go_wp2
    try rw [Exit.noGoto_ret]
    refine bodyPost_ret (v := rlV (b, 1, 0, 0)) (by simp [results, Try.results52, go_sem, *]) rfl ?_
    exact ⟨rfl, (by repeat' (first | (with_reducible exact Below.refl _ _) | (with_reducible assumption) | (with_reducible refine below_drewN ?_ _) | (with_reducible refine Below.drew ?_) | (with_reducible refine Below.alloc ?_ ?_ _) | (with_reducible refine Below.setCell ?_ ?_ _) | go_size))⟩
  by_cases h2 : bt l 0 = 128 ∨ 132 < bt l 0
  · have E := Lib.hid (rl_form (l := l) (by omega) h2)
    rw [E.out]
    clear hr hl hcell
    generalize bt l 0 = b at *
    have h2' : b = 128 ∨ (¬ b - 128 = 0 ∧ 4 < b - 128) := by omega
    clear h2
    rcases h2' with rfl | ⟨h3, h4⟩
    all_goals
      go_enter Try.func52, Try.ntmps52
      go_wp2
      go_step3
      go_wp2_with (go_at_call 56; refine (FA.out _ _ _).mono ?_; rintro e w1 ⟨rfl, hb⟩; obtain ⟨k0, k1, f0, f1, s1, hb1⟩ := two_new hb)
      try rw [Exit.noGoto_ret]
      refine bodyPost_ret (v := rlV (0, 0, 4, 0)) (by simp [results, Try.results52, go_sem, *]) rfl ?_
      exact ⟨rfl, (by repeat' (first | (with_reducible exact Below.refl _ _) | (with_reducible assumption) | (with_reducible refine below_drewN ?_ _) | (with_reducible refine Below.drew ?_) | (with_reducible refine Below.alloc ?_ ?_ _) | (with_reducible refine Below.setCell ?_ ?_ _) | go_size))⟩
  obtain ⟨k, hk⟩ : ∃ k : Nat, bt l 0 = 128 + (k : Int) := ⟨(bt l 0 - 128).toNat, by omega⟩
  have k1 : 1 ≤ k := by omega
  have k4 : k ≤ 4 := by omega
  have h3 : ¬ (k : Int) = 0 := by omega
  have h4 : ¬ (4 : Int) < (k : Int) := by omega
  have h4' : decide ((4 : Int) < (k : Int)) = false := by rw [decide_eq_false_iff_not]; exact h4
  have ek : bt l 0 - 128 = (k : Int) := by omega
  by_cases h5 : n ≤ k
  · have E := Lib.hid (rl_cut (l := l) (by omega) hk k1 k4 (by omega))
    rw [E.out]
    clear hk h2 hr hcell
    subst hl
    generalize bt l 0 = b at *
    have h5' : (l.length : Int) ≤ (k : Int) := by omega
    go_enter Try.func52, Try.ntmps52
    go_wp2
    go_step3
    go_wp2_with (go_at_call 56; refine (FA.out _ _ _).mono ?_; rintro e w1 ⟨rfl, hb⟩; obtain ⟨k0, k1, f0, f1, s1, hb1⟩ := two_new hb)
    try rw [Exit.noGoto_ret]
    refine bodyPost_ret (v := rlV (0, 0, 1, (l.length : Int))) (by simp [results, Try.results52, go_sem, *]) rfl ?_
    exact ⟨rfl, (by repeat' (first | (with_reducible exact Below.refl _ _) | (with_reducible assumption) | (with_reducible refine below_drewN ?_ _) | (with_reducible refine Below.drew ?_) | (with_reducible refine Below.alloc ?_ ?_ _) | (with_reducible refine Below.setCell ?_ ?_ _) | go_size))⟩
  have h5' : ¬ (n : Int) ≤ (k : Int) := by omega
  obtain ⟨d, hd⟩ : ∃ d, (l.drop 1).take k = d := ⟨_, rfl⟩
  have hdl : d.length = k := by rw [← hd, List.length_take, List.length_drop]; omega
  have hdb : ∀ j, j < k → bt d j = bt l (1 + j) := fun j hj => by rw [← hd, bt_take hj, bt_drop]
  have d256 : Cur.be d < 256 ^ 4 := Nat.lt_of_lt_of_le (Cur.be_lt d) (Nat.pow_le_pow_right (by omega) (by omega))
  have HB := Lib.hid (show Cur.be d = 0 ∨ True from .inr trivial)
  have CD := Lib.hid (fun (j : Nat) (hj : j < k) => show w.cell? (ad.add (1 + j)) = some (.int .u8 (bt d j)) from by rw [hdb j hj]; exact hcell _ (by omega))
  have c1 := CD.out 0 (by omega)
  rw [show 1 + 0 = 1 from rfl, add_one] at c1
  have hab1 : (⟨ad.block, ad.off + 1, none⟩ : Addr).block < w.heap.size := hab'
  have EB := Lib.hid (fun h => rl_bad (l := l) hk k1 k4 (by omega) h)
  have EO := Lib.hid (fun h => rl_ok (l := l) hk k1 k4 (by omega) h)
  rw [hd, show bt l 1 = bt d 0 from (hdb 0 (by omega)).symm] at EB EO
  have ST := Lib.hid (fun (j : Nat) (hj : j < k) => Cur.be_cast (l := d) (k := j) (by rw [hdl]; exact hj))
  have HF := Lib.hid (show Cur.be (d.take k) = Cur.be d from by rw [List.take_of_length_le (by omega)])
  have SM := Lib.hid (fun j => Nat.lt_of_le_of_lt (Cur.be_take_le d j) d256)
  clear hk h2 hr hcell hdb hd HB
  generalize bt l 0 = b at *
  go_enter Try.func52, Try.ntmps52
  go_wp2
  go_step3
  go_wp2
  go_step3
  go_wp2
  go_loop [7, 8] (fun nn i => ∃ j : Nat, j ≤ k ∧ i = .int .i64 ((1 + j : Nat) : Int) ∧ nn = .int .i64 ((Cur.be (d.take j) : Nat) : Int)) (fun _ i => k + 2 - (intOf i).toNat)
  case atStart => exact ⟨0, Nat.zero_le _, rfl, rfl⟩
  case round =>
    obtain ⟨j, hj, rfl, rfl⟩ := hrel
    have hv := SM.out j
    by_cases hlt : j < k
    · have ck := CD.out j hlt
      have hst := Lib.hid (ST.out j hlt)
      have y0 := bt_lo d j
      have y1 := bt_hi d j
      have hor := Lib.hid (i64_shl8_or (Cur.be (d.take j)) (bt d j) (by omega) y0 y1)
      obtain ⟨v, hv'⟩ : ∃ v, Cur.be (d.take j) = v := ⟨_, rfl⟩
      rw [hv'] at hor hst hv ⊢
      have hqb : (ad.add (1 + j)).block < w.heap.size := by rw [block_add]; exact hab'
      generalize bt d j = y at *
      have hor' := hor.out
      have hqk : ¬ (k : Int) < ((1 + j : Nat) : Int) := by omega
      have hqn : ((1 + j : Nat) : Int) < (n : Int) := by omega
      generalize hq : 1 + j = q at *
      have hv2 : (v : Int) < 4294967296 := by omega
      clear hv'
      go_wp2
      go_round
      case rel => exact ⟨j + 1, by omega, by rw [show ((1 + (j + 1) : Nat) : Int) = (q : Int) + 1 from by omega], by rw [hst.out]⟩
      case measure => simp [intOf]; omega
    · obtain rfl : j = k := by omega
      rw [HF.out] at hv ⊢
      have hqk : (j : Int) < ((1 + j : Nat) : Int) := by omega
      obtain ⟨v, hv'⟩ : ∃ v, Cur.be d = v := ⟨_, rfl⟩
      rw [hv'] at hv ⊢ EB EO
      have y0 := bt_lo d 0
      have y1 := bt_hi d 0
      generalize bt d 0 = y at *
      clear hv' HF SM ST CD
      by_cases g1 : y = 0
      · have E := Lib.hid (EB.out (.inl g1))
        subst g1
        clear EB EO
        go_wp2_with (go_at_call 56; refine (FA.out _ _ _).mono ?_; rintro e w1 ⟨rfl, hb⟩; obtain ⟨k0, k1, f0, f1, s1, hb1⟩ := two_new hb)
        try rw [Exit.noGoto_ret]
        refine bodyPost_ret (v := rlV (0, 0, 4, 0)) (by simp [results, Try.results52, go_sem, *]) rfl ?_
        exact ⟨by rw [E.out], (by repeat' (first | (with_reducible exact Below.refl _ _) | (with_reducible assumption) | (with_reducible refine below_drewN ?_ _) | (with_reducible refine Below.drew ?_) | (with_reducible refine Below.alloc ?_ ?_ _) | (with_reducible refine Below.setCell ?_ ?_ _) | go_size))⟩
      by_cases g2 : v < 128
      · have E := Lib.hid (EB.out (.inr (.inl g2)))
        have g2' : (v : Int) < 128 := by omega
        clear EB EO
        go_wp2_with (go_at_call 56; refine (FA.out _ _ _).mono ?_; rintro e w1 ⟨rfl, hb⟩; obtain ⟨k0, k1, f0, f1, s1, hb1⟩ := two_new hb)
        try rw [Exit.noGoto_ret]
        refine bodyPost_ret (v := rlV (0, 0, 4, 0)) (by simp [results, Try.results52, go_sem, *]) rfl ?_
        exact ⟨by rw [E.out], (by repeat' (first | (with_reducible exact Below.refl _ _) | (with_reducible assumption) | (with_reducible refine below_drewN ?_ _) | (with_reducible refine Below.drew ?_) | (with_reducible refine Below.alloc ?_ ?_ _) | (with_reducible refine Below.setCell ?_ ?_ _) | go_size))⟩
      by_cases g3 : 2147483647 < v
      · have E := Lib.hid (EB.out (.inr (.inr g3)))
        have g2' : ¬ (v : Int) < 128 := by omega
        have g3' : (2147483647 : Int) < (v : Int) := by omega
        clear EB EO
        go_wp2_with (go_at_call 56; refine (FA.out _ _ _).mono ?_; rintro e w1 ⟨rfl, hb⟩; obtain ⟨k0, k1, f0, f1, s1, hb1⟩ := two_new hb)
        try rw [Exit.noGoto_ret]
        refine bodyPost_ret (v := rlV (0, 0, 4, 0)) (by simp [results, Try.results52, go_sem, *]) rfl ?_
        exact ⟨by rw [E.out], (by repeat' (first | (with_reducible exact Below.refl _ _) | (with_reducible assumption) | (with_reducible refine below_drewN ?_ _) | (with_reducible refine Below.drew ?_) | (with_reducible refine Below.alloc ?_ ?_ _) | (with_reducible refine Below.setCell ?_ ?_ _) | go_size))⟩
      have E := Lib.hid (EO.out (by omega))
      have g2' : ¬ (v : Int) < 128 := by omega
      have g3' : ¬ (2147483647 : Int) < (v : Int) := by omega
      have g3'' : decide ((2147483647 : Int) < (v : Int)) = false := by rw [decide_eq_false_iff_not]; exact g3'
      clear EB EO
      go_wp2
      try rw [Exit.noGoto_ret]
      refine bodyPost_ret (v := rlV ((v : Int), 1 + (j : Int), 0, 0)) (by simp [results, Try.results52, go_sem, *]) rfl ?_
      exact ⟨by rw [E.out], (by repeat' (first | (with_reducible exact Below.refl _ _) | (with_reducible assumption) | (with_reducible refine below_drewN ?_ _) | (with_reducible refine Below.drew ?_) | (with_reducible refine Below.alloc ?_ ?_ _) | (with_reducible refine Below.setCell ?_ ?_ _) | go_size))⟩
end Go.Proofs.Ytoomdaljdbennaa.Tlv
