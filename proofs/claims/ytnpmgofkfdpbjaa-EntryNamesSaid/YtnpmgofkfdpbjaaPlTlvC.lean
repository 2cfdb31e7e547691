/- Plain laws of lengths and elements: what is written is read back, what is read is written so. No program in sight. -/
import Derived.Test.YtnpmgofkfdpbjaaTlvH
set_option linter.unusedSimpArgs false
set_option linter.unusedVariables false
namespace Go.Proofs.Ytnpmgofkfdpbjaa.Tlv
open Kit Cur

theorem w31 {n : Int} (h : lenCode n = 0) : 0 ≤ n ∧ n ≤ 2147483647 := by
  unfold lenCode at h
  by_cases hb : lenBad n
  · rw [if_pos hb] at h; omega
  · unfold lenBad at hb; omega
theorem lenCode_ok {n : Int} (h0 : 0 ≤ n) (h1 : n ≤ 2147483647) : lenCode n = 0 := by
  unfold lenCode; rw [if_neg (by unfold lenBad; omega)]
theorem lenCode_01 (n : Int) : lenCode n = 0 ∨ lenCode n = 9 := by unfold lenCode; split <;> simp
theorem idCode_01 (c n : Int) : idCode c n = 0 ∨ idCode c n = 9 := by unfold idCode; split <;> simp
theorem bt_cons0 (x : UInt8) (l : List UInt8) : bt (x :: l) 0 = (x.toNat : Int) := rfl
theorem bt_cons1 (x : UInt8) (l : List UInt8) (k : Nat) : bt (x :: l) (k + 1) = bt l k := rfl
theorem bt_app {l m : List UInt8} {k : Nat} (h : k < l.length) : bt (l ++ m) k = bt l k := by
  unfold bt; simp [List.getD, List.getElem?_append_left h]

/-- a length, written and read -/
theorem rl_len {n : Int} (h : lenCode n = 0) (more : List UInt8) : rl (lenL n ++ more) = (n, ((lenL n).length : Int), 0, 0) ∧ 1 ≤ (lenL n).length ∧ (lenL n).length ≤ 5 := by
  obtain ⟨h0, h1⟩ := w31 h
  obtain ⟨v, rfl⟩ := Int.eq_ofNat_of_zero_le h0
  by_cases hs : (v : Int) < 128
  · have hv : v < 128 := by omega
    obtain ⟨e, _⟩ := len_short h0 hs
    rw [Int.toNat_natCast, minL_small (by omega)] at e
    rw [e]
    refine ⟨?_, by simp, by simp⟩
    have hb : bt ([UInt8.ofNat v] ++ more) 0 = (v : Int) := by
      rw [List.singleton_append, bt_cons0]; simp [UInt8.toNat_ofNat]; omega
    rw [rl_short (by simp) (by rw [hb]; exact hs), hb]
    rfl
  · obtain ⟨e, _⟩ := len_long (n := (v : Int)) (by omega) h1
    rw [Int.toNat_natCast] at e
    have hW : v < W64 := by unfold W64; omega
    have l1 := minL_len v
    have l2 := minL_lo v (by omega) hW
    have l3 := be_minL hW
    have l4 := minL_head (n := v) (by omega) hW
    obtain ⟨m, hm⟩ : ∃ m, minL v = m := ⟨_, rfl⟩
    rw [hm] at e l1 l2 l3 l4
    rw [e]
    obtain ⟨k, hk⟩ : ∃ k, m.length = k := ⟨_, rfl⟩
    rw [hk] at l1 l2 ⊢
    have hk4 : k ≤ 4 := by
      rcases Nat.lt_or_ge k 5 with h | h
      · omega
      · exfalso
        have : (256 : Nat) ^ 4 ≤ 256 ^ (k - 1) := Nat.pow_le_pow_right (by omega) (by omega)
        omega
    have hk1 : 1 ≤ k := by
      rcases Nat.eq_zero_or_pos k with h | h
      · have : m = [] := List.eq_nil_of_length_eq_zero (by omega)
        subst this
        rw [be_nil] at l3
        omega
      · exact h
    have hb0 : bt ((ofI (128 + (k : Int)) :: m) ++ more) 0 = 128 + (k : Int) := by
      rw [List.cons_append, bt_cons0, ofI_toNat (by omega) (by omega)]
    have hd : (((ofI (128 + (k : Int)) :: m) ++ more).drop 1).take k = m := by
      rw [List.cons_append, List.drop_succ_cons, List.drop_zero, List.take_append_of_le_length (by omega), List.take_of_length_le (by omega)]
    have hb1 : bt ((ofI (128 + (k : Int)) :: m) ++ more) 1 = bt m 0 := by
      rw [List.cons_append, bt_cons1, bt_app (by omega)]
    refine ⟨?_, by simp, by simp; omega⟩
    rw [rl_ok hb0 hk1 hk4 (by simp; omega) (by rw [hd, hb1, l3]; omega), hd, l3]
    simp [hk]
    omega

theorem cons_of {l : List UInt8} (h : ¬ l.length = 0) : ∃ x t, l = x :: t := by
  cases l with
  | nil => exact absurd rfl h
  | cons x t => exact ⟨x, t, rfl⟩
/-- a length, read and written -/
theorem rl_read {l : List UInt8} (h : (rl l).2.2.1 = 0) : lenCode (rl l).1 = 0 ∧ 1 ≤ (rl l).2.1 ∧ (rl l).2.1 ≤ l.length ∧ lenL (rl l).1 = l.take (rl l).2.1.toNat ∧ (rl l).2.2.2 = 0 := by
  by_cases h0 : l.length = 0
  · rw [rl_nil h0] at h; simp at h
  by_cases h1 : bt l 0 < 128
  · rw [rl_short (by omega) h1]
    have b0 := bt_lo l 0
    refine ⟨lenCode_ok b0 (by simp only []; omega), by simp, by simp only []; omega, ?_, rfl⟩
    simp only []
    rw [(len_short b0 h1).1]
    obtain ⟨x, t, rfl⟩ := cons_of h0
    rw [bt_cons0] at h1 ⊢
    rw [Int.toNat_natCast, minL_small (by omega)]
    simp
  by_cases h2 : bt l 0 = 128 ∨ 132 < bt l 0
  · rw [rl_form (by omega) h2] at h; simp at h
  obtain ⟨k, hk⟩ : ∃ k : Nat, bt l 0 = 128 + (k : Int) := ⟨(bt l 0 - 128).toNat, by omega⟩
  by_cases h3 : l.length ≤ k
  · rw [rl_cut (by omega) hk (by omega) (by omega) h3] at h; simp at h
  by_cases h4 : bt l 1 = 0 ∨ be ((l.drop 1).take k) < 128 ∨ 2147483647 < be ((l.drop 1).take k)
  · rw [rl_bad hk (by omega) (by omega) (by omega) h4] at h; simp at h
  rw [rl_ok hk (by omega) (by omega) (by omega) h4]
  obtain ⟨d, hd⟩ : ∃ d, (l.drop 1).take k = d := ⟨_, rfl⟩
  have hdl : d.length = k := by rw [← hd, List.length_take, List.length_drop]; omega
  have hd0 : bt d 0 = bt l 1 := by rw [← hd, bt_take (by omega), bt_drop]
  rw [hd] at h4 ⊢
  have hm : minL (be d) = d := minL_be (by omega) (by rw [hd0]; omega) (by omega)
  refine ⟨lenCode_ok (by simp only []; omega) (by simp only []; omega), by simp only []; omega, by simp only []; omega, ?_, rfl⟩
  simp only []
  rw [(len_long (n := ((be d : Nat) : Int)) (by omega) (by omega)).1, Int.toNat_natCast, hm, hdl, ← hk]
  rw [show (1 + (k : Int)).toNat = k + 1 from by omega]
  obtain ⟨x, t, rfl⟩ := cons_of h0
  rw [List.take_succ_cons, bt_cons0, ofI_byte]
  rw [List.drop_succ_cons, List.drop_zero] at hd
  rw [hd]
theorem rl_err (l : List UInt8) (h : (rl l).2.2.1 ≠ 0) : 0 < (rl l).2.2.1 ∧ 0 ≤ (rl l).2.2.2 ∧ (rl l).2.2.2 ≤ l.length := by
  have hb : (rl l).2.2.1 = 0 ∨ (0 < (rl l).2.2.1 ∧ 0 ≤ (rl l).2.2.2 ∧ (rl l).2.2.2 ≤ l.length) := by
    unfold rl
    by_cases c1 : l.length = 0
    · rw [if_pos c1]; right; simp
    rw [if_neg c1]
    by_cases c2 : bt l 0 < 128
    · rw [if_pos c2]; left; rfl
    rw [if_neg c2]
    by_cases c3 : bt l 0 = 128 ∨ 132 < bt l 0
    · rw [if_pos c3]; right; simp
    rw [if_neg c3]
    by_cases c4 : (l.length : Int) ≤ bt l 0 - 128
    · rw [if_pos c4]; right; simp
    rw [if_neg c4]
    split
    · right; simp
    · left; rfl
  rcases hb with hb | hb
  · exact absurd hb h
  · exact hb

theorem encCode_ok {c n : Int} {k : Nat} (h : encCode c n k = 0) : idCode c n = 0 ∧ lenCode k = 0 := by
  unfold encCode at h
  rcases idCode_01 c n with h1 | h1
  · rw [if_neg (by omega)] at h; exact ⟨h1, h⟩
  · rw [if_pos (by omega)] at h; omega
theorem encCode_mk {c n : Int} {k : Nat} (h : idCode c n = 0) (h2 : lenCode k = 0) : encCode c n k = 0 := by
  unfold encCode; rw [if_neg (by omega), h2]
theorem enc_len {c n : Int} {b : Bool} {l : List UInt8} (h : encCode c n l.length = 0) : (encL c b n l).length = 1 + (lenL l.length).length + l.length := by
  obtain ⟨h1, h2⟩ := encCode_ok h
  rw [(enc_ok b l h1 h2).1]; simp; omega

/-- the header of an element, written and read -/
theorem rh_enc {c n : Int} {b : Bool} {k : Nat} (h : idCode c n = 0) (h2 : lenCode k = 0) (more : List UInt8) :
    rh (ofI (idByte c b n) :: (lenL k ++ more)) = (⟨c, n, b, k, 1 + (lenL k).length⟩, 0, 0) := by
  obtain ⟨r1, r2, r3, r4⟩ := id_read (b := b) h
  obtain ⟨x0, x1⟩ := id_bd c b n
  have hb : bt (ofI (idByte c b n) :: (lenL k ++ more)) 0 = idByte c b n := by rw [bt_cons0, ofI_toNat x0 x1]
  unfold rh
  rw [if_neg (by simp), hb, if_neg (by omega), List.drop_succ_cons, List.drop_zero, (rl_len h2 more).1]
  simp only []
  rw [if_neg (by simp), r1, r2, r3]

/-- an element, written and read -/
theorem nx_enc {c n : Int} {b : Bool} {l : List UInt8} (h : encCode c n l.length = 0) (more : List UInt8) :
    nx (encL c b n l ++ more) = ⟨⟨c, n, b, l.length, 1 + (lenL l.length).length⟩, l, more, 0, 0⟩ := by
  obtain ⟨h1, h2⟩ := encCode_ok h
  have e : encL c b n l ++ more = ofI (idByte c b n) :: (lenL l.length ++ (l ++ more)) := by
    rw [(enc_ok b l h1 h2).1]; simp
  rw [e]
  have hr := rh_enc (b := b) h1 h2 (l ++ more)
  unfold nx
  rw [hr]
  simp only []
  rw [if_neg (by simp), if_neg (by simp; omega)]
  have e2 : (1 + ((lenL (l.length : Int)).length : Int)).toNat = (lenL (l.length : Int)).length + 1 := by omega
  rw [e2, Int.toNat_natCast, List.drop_succ_cons, List.drop_left]
  have e3 : (lenL (l.length : Int)).length + 1 + l.length = (lenL (l.length : Int)).length + l.length + 1 := by omega
  rw [e3, List.drop_succ_cons, ← List.append_assoc, List.take_left' rfl, List.drop_left' (by simp)]

theorem rh_ok {l : List UInt8} (h : (rh l).2.1 = 0) : l.length ≠ 0 ∧ ridE (bt l 0) = 0 ∧ (rl (l.drop 1)).2.2.1 = 0 ∧ rh l = (⟨ridC (bt l 0), ridN (bt l 0), ridB (bt l 0), (rl (l.drop 1)).1, 1 + (rl (l.drop 1)).2.1⟩, 0, 0) := by
  by_cases h0 : l.length = 0
  · unfold rh at h; rw [if_pos h0] at h; simp at h
  by_cases h1 : ridE (bt l 0) ≠ 0
  · unfold rh at h; rw [if_neg h0, if_pos h1] at h; simp at h
  by_cases h2 : (rl (l.drop 1)).2.2.1 ≠ 0
  · unfold rh at h; rw [if_neg h0, if_neg h1, if_pos h2] at h; simp only [] at h; omega
  refine ⟨h0, by omega, by omega, ?_⟩
  unfold rh; rw [if_neg h0, if_neg h1, if_neg h2]
/-- an element, read and written -/
theorem nx_back {l : List UInt8} (h : (nx l).code = 0) : encCode (nx l).hd.cls (nx l).hd.num (nx l).con.length = 0 ∧ encL (nx l).hd.cls (nx l).hd.cons (nx l).hd.num (nx l).con ++ (nx l).rest = l ∧ (nx l).off = 0 ∧
    (nx l).hd.len = (nx l).con.length ∧ (nx l).hd.size = 1 + (lenL (nx l).con.length).length := by
  by_cases g1 : (rh l).2.1 ≠ 0
  · unfold nx at h; rw [if_pos g1] at h; simp only [] at h; omega
  by_cases g2 : (l.length : Int) - (rh l).1.size < (rh l).1.len
  · unfold nx at h; rw [if_neg g1, if_pos g2] at h; simp at h
  have e : nx l = ⟨(rh l).1, (l.drop (rh l).1.size.toNat).take (rh l).1.len.toNat, l.drop ((rh l).1.size.toNat + (rh l).1.len.toNat), 0, 0⟩ := by unfold nx; rw [if_neg g1, if_neg g2]
  rw [e]
  simp only []
  obtain ⟨k0, k1, k2, k3⟩ := rh_ok (by omega : (rh l).2.1 = 0)
  obtain ⟨p1, p2, p3, p4, _⟩ := rl_read k2
  rw [k3] at g2 ⊢
  simp only [] at g2 ⊢
  obtain ⟨q0, _⟩ := w31 p1
  obtain ⟨m, hm⟩ := Int.eq_ofNat_of_zero_le q0
  obtain ⟨s, hs⟩ := Int.eq_ofNat_of_zero_le (show 0 ≤ (rl (l.drop 1)).2.1 from by omega)
  rw [hm] at p1 p4 g2 ⊢
  rw [hs] at p2 p3 p4 g2 ⊢
  rw [List.length_drop] at p3
  obtain ⟨b1, b2⟩ := id_back (bt_lo l 0) (bt_hi l 0) k1
  obtain ⟨x, t, rfl⟩ := cons_of k0
  rw [bt_cons0] at b1 b2 ⊢
  simp only [List.drop_succ_cons, List.drop_zero, List.length_cons, Int.toNat_natCast] at p3 p4 g2 ⊢
  have hs1 : (1 + (s : Int)).toNat = s + 1 := by omega
  rw [hs1]
  have hl : ((t.drop s).take m).length = m := by rw [List.length_take, List.length_drop]; omega
  have hll : (lenL (m : Int)).length = s := by rw [p4, List.length_take]; omega
  rw [List.drop_succ_cons, hl, show s + 1 + m = s + m + 1 from by omega, List.drop_succ_cons]
  have hc := encCode_mk b2 p1
  refine ⟨hc, ?_, (by first | trivial | rfl), (by first | trivial | rfl), by rw [hll]⟩
  rw [(enc_ok _ _ b2 (by rw [hl]; exact p1)).1, hl, p4, b1, ofI_byte]
  simp only [List.cons_append, List.append_assoc]
  rw [← List.drop_drop, List.take_append_drop, List.take_append_drop]
/-- an error of Next -/
theorem nx_err {l : List UInt8} (hl : l.length ≤ 140737488355328) (h : (nx l).code ≠ 0) : (nx l).hd = Hd.zero ∧ (nx l).con = [] ∧ (nx l).rest = [] ∧ 0 < (nx l).code ∧ 0 ≤ (nx l).off ∧ (nx l).off ≤ l.length := by
  obtain ⟨d1, d2, d3, d4, d5, d6, d7, d8⟩ := rh_bd l hl
  by_cases g1 : (rh l).2.1 ≠ 0
  · have e : nx l = ⟨Hd.zero, [], [], (rh l).2.1, (rh l).2.2⟩ := by unfold nx; rw [if_pos g1]
    rw [e]
    exact ⟨rfl, rfl, rfl, by show (0 : Int) < (rh l).2.1; omega, d7, d8⟩
  by_cases g2 : (l.length : Int) - (rh l).1.size < (rh l).1.len
  · have e : nx l = ⟨Hd.zero, [], [], 1, l.length⟩ := by unfold nx; rw [if_neg g1, if_pos g2]
    rw [e]
    exact ⟨rfl, rfl, rfl, by show (0 : Int) < 1; omega, by show (0 : Int) ≤ l.length; omega, Int.le_refl _⟩
  · unfold nx at h; rw [if_neg g1, if_neg g2] at h; simp at h
/-- of two elements none begins with the other one -/
theorem enc_prefix {c n c' n' : Int} {b b' : Bool} {l m r : List UInt8} (h : encCode c n l.length = 0) (h' : encCode c' n' m.length = 0) (e : encL c' b' n' m = encL c b n l ++ r) : c = c' ∧ n = n' ∧ b = b' ∧ l = m := by
  have h1 := nx_enc (b := b) h r
  have h2 := nx_enc (b := b') h' []
  rw [List.append_nil, e, h1] at h2
  injection h2 with g1 g2
  injection g1 with k1 k2 k3 k4 k5
  exact ⟨k1, k2, k3, g2⟩
theorem e2 (a b : List UInt8) (e : a = b.take a.length) : b = a ++ b.drop a.length := by
  have h := List.take_append_drop a.length b
  rw [← e] at h
  exact h.symm
/-- as the law asks it: cut to the shorter one -/
theorem enc_cut {c n c' n' : Int} {b b' : Bool} {l m : List UInt8} (h : encCode c n l.length = 0) (h' : encCode c' n' m.length = 0)
    (e : (encL c b n l).take (min (encL c b n l).length (encL c' b' n' m).length) = (encL c' b' n' m).take (min (encL c b n l).length (encL c' b' n' m).length)) : c = c' ∧ n = n' ∧ b = b' ∧ l = m := by
  rcases Nat.le_total (encL c b n l).length (encL c' b' n' m).length with hle | hle
  · rw [Nat.min_eq_left hle, List.take_of_length_le (Nat.le_refl _)] at e
    exact enc_prefix h h' (r := (encL c' b' n' m).drop (encL c b n l).length) (e2 _ _ e)
  · rw [Nat.min_eq_right hle, List.take_of_length_le (l := encL c' b' n' m) (Nat.le_refl _)] at e
    obtain ⟨h1, h2, h3, h4⟩ := enc_prefix h' h (r := (encL c b n l).drop (encL c' b' n' m).length) (e2 _ _ e.symm)
    exact ⟨h1.symm, h2.symm, h3.symm, h4.symm⟩
end Go.Proofs.Ytnpmgofkfdpbjaa.Tlv
