/- Plain laws: the reference's decoding of points in time is the clock's. No program in sight. -/
import Derived.Test.YtkkgcfllfhkoaaaPlClkC
set_option linter.unusedSimpArgs false
set_option linter.unusedVariables false
namespace Go.Proofs.Ytkkgcfllfhkoaaa.Clk
open Kit

/-- the number of digits from an index on -/
def numF (l : List UInt8) (p : Nat) : Nat → Int
  | 0 => 0
  | k + 1 => if p + k < l.length then numF l p k * 10 + bt l (p + k) % 16 else numF l p k
theorem numF_bd (l : List UInt8) (p : Nat) : ∀ k, k ≤ 4 → 0 ≤ numF l p k ∧ numF l p k ≤ 16665 ∧ (k ≤ 3 → numF l p k ≤ 1665) ∧ (k ≤ 2 → numF l p k ≤ 165) ∧ (k ≤ 1 → numF l p k ≤ 15) ∧ (k = 0 → numF l p k = 0)
  | 0, _ => by simp [numF]
  | k + 1, h => by
    have := numF_bd l p k (by omega)
    unfold numF
    split <;> omega
def ry2 (l : List UInt8) : Int := if 1900 + numF l 0 2 < 1950 then 1900 + numF l 0 2 + 100 else 1900 + numF l 0 2

theorem num_pr {l : List UInt8} {dg p : Nat} (h : okC dg l) (hp : p + 1 < dg + 10) : numF l p 2 = pr l p := by
  have h1 := h.2.2 p (by omega)
  have h2 := h.2.2 (p + 1) hp
  have hl := h.1
  unfold numF numF numF pr
  rw [if_pos (by omega), if_pos (by omega)]
  simp only [Nat.add_zero]
  omega
theorem ry_yr {l : List UInt8} (h : okC 2 l) : ry2 l = yr2 l := by
  unfold ry2 yr2
  rw [num_pr h (by omega)]
  split <;> split <;> omega
theorem num_yr4 {l : List UInt8} (h : okC 4 l) : numF l 0 4 = yr4 l := by
  have h0 := h.2.2 0 (by omega)
  have h1 := h.2.2 1 (by omega)
  have h2 := h.2.2 2 (by omega)
  have h3 := h.2.2 3 (by omega)
  have hl := h.1
  unfold numF numF numF numF numF yr4 pr
  rw [if_pos (by omega), if_pos (by omega), if_pos (by omega), if_pos (by omega)]
  simp only [Nat.add_zero, Nat.zero_add, Nat.reduceAdd]
  omega

theorem dig_mem {n : Int} (h0 : 0 ≤ n) (h1 : n ≤ 99) {b : UInt8} (hb : b ∈ dig n) : 48 ≤ (b.toNat : Int) ∧ (b.toNat : Int) ≤ 57 := by
  simp only [dig, List.mem_cons, List.not_mem_nil, or_false] at hb
  rcases hb with rfl | rfl
  · rw [ofI_toNat (by omega) (by omega)]; omega
  · rw [ofI_toNat (by omega) (by omega)]; omega
theorem digs_mem {fs : List Int} (h : ∀ n ∈ fs, 0 ≤ n ∧ n ≤ 99) {b : UInt8} (hb : b ∈ digs fs) : 48 ≤ (b.toNat : Int) ∧ (b.toNat : Int) ≤ 57 := by
  simp only [digs, List.mem_flatMap] at hb
  obtain ⟨n, hn, hb⟩ := hb
  exact dig_mem (h n hn).1 (h n hn).2 hb
theorem bt_left {l m : List UInt8} {k : Nat} (h : k < l.length) : bt (l ++ m) k = bt l k := by
  unfold bt; simp [List.getD, List.getElem?_append_left h]
theorem bt_right {l m : List UInt8} {k : Nat} (h : l.length ≤ k) : bt (l ++ m) k = bt m (k - l.length) := by
  unfold bt; simp [List.getD, List.getElem?_append_right h]
theorem okC_digs {fs : List Int} {dg : Nat} (hl : 2 * fs.length = dg + 10) (h : ∀ n ∈ fs, 0 ≤ n ∧ n ≤ 99) : okC dg (digs fs ++ [90]) := by
  have hd := digs_len fs
  refine ⟨by simp [hd]; omega, ?_, fun k hk => ?_⟩
  · rw [bt_right (by omega), show dg + 10 - (digs fs).length = 0 by omega]; rfl
  · rw [bt_left (by omega), bt_eq (by omega)]
    exact digs_mem h (List.getElem_mem _)
theorem pr_digs : ∀ {fs : List Int} (m : List UInt8) {i : Nat}, i < fs.length → (∀ n ∈ fs, 0 ≤ n ∧ n ≤ 99) → pr (digs fs ++ m) (2 * i) = fs.getD i 0
  | [], m, i, h, _ => by simp at h
  | n :: fs, m, 0, _, hb => by
    have := hb n (by simp)
    have e : digs (n :: fs) ++ m = ofI (48 + n / 10) :: ofI (48 + n % 10) :: (digs fs ++ m) := by simp [digs, dig]
    rw [e]
    have e0 : bt (ofI (48 + n / 10) :: ofI (48 + n % 10) :: (digs fs ++ m)) 0 = 48 + n / 10 := ofI_toNat (by omega) (by omega)
    have e1 : bt (ofI (48 + n / 10) :: ofI (48 + n % 10) :: (digs fs ++ m)) 1 = 48 + n % 10 := ofI_toNat (by omega) (by omega)
    unfold pr
    rw [Nat.mul_zero, Nat.zero_add, e0, e1]
    show _ = n
    omega
  | n :: fs, m, i + 1, h, hb => by
    have ih := pr_digs (fs := fs) m (i := i) (by simpa using h) (fun x hx => hb x (by simp [hx]))
    have e : digs (n :: fs) ++ m = ofI (48 + n / 10) :: ofI (48 + n % 10) :: (digs fs ++ m) := by simp [digs, dig]
    rw [e]
    show _ = fs.getD i 0
    rw [← ih]
    rfl
theorem utc_digs (y m d h mi s : Int) : utcL y m d h mi s = digs [y % 100, m, d, h, mi, s] ++ [90] := by simp [utcL, tailL, digs, List.append_assoc]
theorem gen_digs (y m d h mi s : Int) : genL y m d h mi s = digs [y / 100, y % 100, m, d, h, mi, s] ++ [90] := by simp [genL, tailL, digs, List.append_assoc]

theorem six {a b c d e f : Int} {P : Int → Prop} (h1 : P a) (h2 : P b) (h3 : P c) (h4 : P d) (h5 : P e) (h6 : P f) : ∀ n ∈ [a, b, c, d, e, f], P n := by
  intro n hn
  simp only [List.mem_cons, List.not_mem_nil, or_false] at hn
  rcases hn with rfl | rfl | rfl | rfl | rfl | rfl <;> assumption
theorem seven {a b c d e f g : Int} {P : Int → Prop} (h1 : P a) (h2 : P b) (h3 : P c) (h4 : P d) (h5 : P e) (h6 : P f) (h7 : P g) : ∀ n ∈ [a, b, c, d, e, f, g], P n := by
  intro n hn
  simp only [List.mem_cons, List.not_mem_nil, or_false] at hn
  rcases hn with rfl | rfl | rfl | rfl | rfl | rfl | rfl <;> assumption

/-- what is encoded is decoded -/
theorem utc_back {y m d h mi s : Int} (hv : utcCode y m d h mi s = 0) : okU (utcL y m d h mi s) ∧ yr2 (utcL y m d h mi s) = y ∧ pr (utcL y m d h mi s) 2 = m ∧ pr (utcL y m d h mi s) 4 = d ∧ pr (utcL y m d h mi s) 6 = h ∧ pr (utcL y m d h mi s) 8 = mi ∧ pr (utcL y m d h mi s) 10 = s := by
  have hval : validB y m d h mi s = true := by
    cases hq : validB y m d h mi s
    · unfold utcCode at hv; rw [hq] at hv; simp at hv
    · rfl
  have hr : ¬ (y < 1950 ∨ 2049 < y) := by
    intro hr; unfold utcCode at hv; rw [if_pos hval, if_pos hr] at hv; omega
  have bd := valid_bd hval
  have hb : ∀ n ∈ [y % 100, m, d, h, mi, s], 0 ≤ n ∧ n ≤ 99 := six (by omega) (by omega) (by omega) (by omega) (by omega) (by omega)
  rw [utc_digs]
  have q0 : pr (digs [y % 100, m, d, h, mi, s] ++ [90]) 0 = y % 100 := pr_digs [90] (i := 0) (by simp) hb
  have q1 : pr (digs [y % 100, m, d, h, mi, s] ++ [90]) 2 = m := pr_digs [90] (i := 1) (by simp) hb
  have q2 : pr (digs [y % 100, m, d, h, mi, s] ++ [90]) 4 = d := pr_digs [90] (i := 2) (by simp) hb
  have q3 : pr (digs [y % 100, m, d, h, mi, s] ++ [90]) 6 = h := pr_digs [90] (i := 3) (by simp) hb
  have q4 : pr (digs [y % 100, m, d, h, mi, s] ++ [90]) 8 = mi := pr_digs [90] (i := 4) (by simp) hb
  have q5 : pr (digs [y % 100, m, d, h, mi, s] ++ [90]) 10 = s := pr_digs [90] (i := 5) (by simp) hb
  have hy : yr2 (digs [y % 100, m, d, h, mi, s] ++ [90]) = y := by unfold yr2; rw [q0]; split <;> omega
  refine ⟨⟨okC_digs (by simp) hb, ?_⟩, hy, q1, q2, q3, q4, q5⟩
  rw [hy, q1, q2, q3, q4, q5]; exact hval
theorem gen_back {y m d h mi s : Int} (hv : genCode y m d h mi s = 0) : okG (genL y m d h mi s) ∧ yr4 (genL y m d h mi s) = y ∧ pr (genL y m d h mi s) 4 = m ∧ pr (genL y m d h mi s) 6 = d ∧ pr (genL y m d h mi s) 8 = h ∧ pr (genL y m d h mi s) 10 = mi ∧ pr (genL y m d h mi s) 12 = s := by
  have hval : validB y m d h mi s = true := by
    cases hq : validB y m d h mi s
    · unfold genCode at hv; rw [hq] at hv; simp at hv
    · rfl
  have bd := valid_bd hval
  have hb : ∀ n ∈ [y / 100, y % 100, m, d, h, mi, s], 0 ≤ n ∧ n ≤ 99 := seven (by omega) (by omega) (by omega) (by omega) (by omega) (by omega) (by omega)
  rw [gen_digs]
  have q : pr (digs [y / 100, y % 100, m, d, h, mi, s] ++ [90]) 0 = y / 100 := pr_digs [90] (i := 0) (by simp) hb
  have q0 : pr (digs [y / 100, y % 100, m, d, h, mi, s] ++ [90]) 2 = y % 100 := pr_digs [90] (i := 1) (by simp) hb
  have q1 : pr (digs [y / 100, y % 100, m, d, h, mi, s] ++ [90]) 4 = m := pr_digs [90] (i := 2) (by simp) hb
  have q2 : pr (digs [y / 100, y % 100, m, d, h, mi, s] ++ [90]) 6 = d := pr_digs [90] (i := 3) (by simp) hb
  have q3 : pr (digs [y / 100, y % 100, m, d, h, mi, s] ++ [90]) 8 = h := pr_digs [90] (i := 4) (by simp) hb
  have q4 : pr (digs [y / 100, y % 100, m, d, h, mi, s] ++ [90]) 10 = mi := pr_digs [90] (i := 5) (by simp) hb
  have q5 : pr (digs [y / 100, y % 100, m, d, h, mi, s] ++ [90]) 12 = s := pr_digs [90] (i := 6) (by simp) hb
  have hy : yr4 (digs [y / 100, y % 100, m, d, h, mi, s] ++ [90]) = y := by unfold yr4; rw [q, q0]; omega
  refine ⟨⟨okC_digs (by simp) hb, ?_⟩, hy, q1, q2, q3, q4, q5⟩
  rw [hy, q1, q2, q3, q4, q5]; exact hval

theorem dig_pr {l : List UInt8} {dg p : Nat} (h : okC dg l) (hp : p + 1 < dg + 10) : dig (pr l p) = [l.getD p 0, l.getD (p + 1) 0] := by
  have h1 := h.2.2 p (by omega)
  have h2 := h.2.2 (p + 1) hp
  have e1 : 48 + pr l p / 10 = bt l p := by unfold pr; omega
  have e2 : 48 + pr l p % 10 = bt l (p + 1) := by unfold pr; omega
  unfold dig
  rw [e1, e2]
  unfold bt
  rw [ofI_byte, ofI_byte]
theorem last_z {l : List UInt8} {dg : Nat} (h : okC dg l) : l.getD (dg + 10) 0 = 90 := by
  have := h.2.1
  unfold bt at this
  apply UInt8.toNat_inj.mp
  show _ = 90
  omega
theorem list13 {l : List UInt8} (h : l.length = 13) : [l.getD 0 0, l.getD 1 0, l.getD 2 0, l.getD 3 0, l.getD 4 0, l.getD 5 0, l.getD 6 0, l.getD 7 0, l.getD 8 0, l.getD 9 0, l.getD 10 0, l.getD 11 0, l.getD 12 0] = l := by
  match l, h with
  | [a0, a1, a2, a3, a4, a5, a6, a7, a8, a9, a10, a11, a12], _ => rfl
theorem list15 {l : List UInt8} (h : l.length = 15) : [l.getD 0 0, l.getD 1 0, l.getD 2 0, l.getD 3 0, l.getD 4 0, l.getD 5 0, l.getD 6 0, l.getD 7 0, l.getD 8 0, l.getD 9 0, l.getD 10 0, l.getD 11 0, l.getD 12 0, l.getD 13 0, l.getD 14 0] = l := by
  match l, h with
  | [a0, a1, a2, a3, a4, a5, a6, a7, a8, a9, a10, a11, a12, a13, a14], _ => rfl

/-- what is decoded is encoded as what was read -/
theorem utc_of {l : List UInt8} (hok : okU l) : utcCode (yr2 l) (pr l 2) (pr l 4) (pr l 6) (pr l 8) (pr l 10) = 0 ∧ utcBytes (yr2 l) (pr l 2) (pr l 4) (pr l 6) (pr l 8) (pr l 10) = l := by
  obtain ⟨h, hv⟩ := hok
  have b0 := pr_bd h (show 0 + 1 < 2 + 10 by omega)
  have hc : utcCode (yr2 l) (pr l 2) (pr l 4) (pr l 6) (pr l 8) (pr l 10) = 0 := by
    unfold utcCode
    rw [if_pos hv, if_neg]
    unfold yr2
    split <;> omega
  refine ⟨hc, ?_⟩
  unfold utcBytes
  rw [if_pos hc, utc_digs]
  have hy : yr2 l % 100 = pr l 0 := by unfold yr2; split <;> omega
  rw [hy]
  show dig (pr l 0) ++ (dig (pr l 2) ++ (dig (pr l 4) ++ (dig (pr l 6) ++ (dig (pr l 8) ++ (dig (pr l 10) ++ []))))) ++ [90] = l
  rw [dig_pr h (by omega), dig_pr h (by omega), dig_pr h (by omega), dig_pr h (by omega), dig_pr h (by omega), dig_pr h (by omega), ← last_z h]
  exact list13 h.1
theorem gen_of {l : List UInt8} (hok : okG l) : genCode (yr4 l) (pr l 4) (pr l 6) (pr l 8) (pr l 10) (pr l 12) = 0 ∧ genBytes (yr4 l) (pr l 4) (pr l 6) (pr l 8) (pr l 10) (pr l 12) = l := by
  obtain ⟨h, hv⟩ := hok
  have b0 := pr_bd h (show 0 + 1 < 4 + 10 by omega)
  have b2 := pr_bd h (show 2 + 1 < 4 + 10 by omega)
  have hc : genCode (yr4 l) (pr l 4) (pr l 6) (pr l 8) (pr l 10) (pr l 12) = 0 := by
    unfold genCode
    rw [if_pos hv]
  refine ⟨hc, ?_⟩
  unfold genBytes
  rw [if_pos hc, gen_digs]
  have hy : yr4 l % 100 = pr l 2 := by unfold yr4; omega
  have hy' : yr4 l / 100 = pr l 0 := by unfold yr4; omega
  rw [hy, hy']
  show dig (pr l 0) ++ (dig (pr l 2) ++ (dig (pr l 4) ++ (dig (pr l 6) ++ (dig (pr l 8) ++ (dig (pr l 10) ++ (dig (pr l 12) ++ [])))))) ++ [90] = l
  rw [dig_pr h (by omega), dig_pr h (by omega), dig_pr h (by omega), dig_pr h (by omega), dig_pr h (by omega), dig_pr h (by omega), dig_pr h (by omega), ← last_z h]
  exact list15 h.1

/-- the reference's test is the clock's -/
theorem utc_iff (l : List UInt8) : (utcCode (ry2 l) (numF l 2 2) (numF l 4 2) (numF l 6 2) (numF l 8 2) (numF l 10 2) = 0 ∧ utcBytes (ry2 l) (numF l 2 2) (numF l 4 2) (numF l 6 2) (numF l 8 2) (numF l 10 2) = l) ↔ okU l := by
  constructor
  · rintro ⟨hc, hb⟩
    unfold utcBytes at hb
    rw [if_pos hc] at hb
    have := (utc_back hc).1
    rw [hb] at this
    exact this
  · intro h
    rw [ry_yr h.1, num_pr h.1 (by omega), num_pr h.1 (by omega), num_pr h.1 (by omega), num_pr h.1 (by omega), num_pr h.1 (by omega)]
    exact utc_of h
theorem gen_iff (l : List UInt8) : (genCode (numF l 0 4) (numF l 4 2) (numF l 6 2) (numF l 8 2) (numF l 10 2) (numF l 12 2) = 0 ∧ genBytes (numF l 0 4) (numF l 4 2) (numF l 6 2) (numF l 8 2) (numF l 10 2) (numF l 12 2) = l) ↔ okG l := by
  constructor
  · rintro ⟨hc, hb⟩
    unfold genBytes at hb
    rw [if_pos hc] at hb
    have := (gen_back hc).1
    rw [hb] at this
    exact this
  · intro h
    rw [num_yr4 h.1, num_pr h.1 (by omega), num_pr h.1 (by omega), num_pr h.1 (by omega), num_pr h.1 (by omega), num_pr h.1 (by omega)]
    exact gen_of h
end Go.Proofs.Ytkkgcfllfhkoaaa.Clk
