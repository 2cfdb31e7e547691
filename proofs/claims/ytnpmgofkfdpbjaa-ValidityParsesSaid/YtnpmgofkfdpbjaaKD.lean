/- Joined texts: PlClkC, PlClkD, ClkC, ClkD. -/
import Derived.Test.YtnpmgofkfdpbjaaKC
import Derived.Test.YtnpmgofkfdpbjaaKA
set_option linter.unusedSimpArgs false
set_option linter.unusedVariables false
/- Plain laws of decoding points in time. No program in sight. -/
namespace Go.Proofs.Ytnpmgofkfdpbjaa.Clk
open Kit

/-- the number in two digits at an index -/
def pr (l : List UInt8) (p : Nat) : Int := (bt l p - 48) * 10 + (bt l (p + 1) - 48)
/-- digits, so many for the year, and a Z -/
def okC (dg : Nat) (l : List UInt8) : Prop := l.length = dg + 11 ∧ bt l (dg + 10) = 90 ∧ ∀ k, k < dg + 10 → 48 ≤ bt l k ∧ bt l k ≤ 57
instance (dg : Nat) (l : List UInt8) : Decidable (okC dg l) := by unfold okC; infer_instance
def yr2 (l : List UInt8) : Int := if pr l 0 < 50 then pr l 0 + 2000 else pr l 0 + 1900
def yr4 (l : List UInt8) : Int := 100 * pr l 0 + pr l 2
theorem pr_bd {l : List UInt8} {dg p : Nat} (h : okC dg l) (hp : p + 1 < dg + 10) : 0 ≤ pr l p ∧ pr l p ≤ 99 := by
  have h1 := h.2.2 p (by omega)
  have h2 := h.2.2 (p + 1) (by omega)
  unfold pr; omega
/-- the contents octets of a UTCTime -/
def okU (l : List UInt8) : Prop := okC 2 l ∧ validB (yr2 l) (pr l 2) (pr l 4) (pr l 6) (pr l 8) (pr l 10) = true
/-- the contents octets of a GeneralizedTime -/
def okG (l : List UInt8) : Prop := okC 4 l ∧ validB (yr4 l) (pr l 4) (pr l 6) (pr l 8) (pr l 10) (pr l 12) = true
instance (l : List UInt8) : Decidable (okU l) := by unfold okU; infer_instance
instance (l : List UInt8) : Decidable (okG l) := by unfold okG; infer_instance
end Go.Proofs.Ytnpmgofkfdpbjaa.Clk
/- Plain laws: the reference's decoding of points in time is the clock's. No program in sight. -/
namespace Go.Proofs.Ytnpmgofkfdpbjaa.Clk
open Kit

/-- the number of digits from an index on -/
def numF (l : List UInt8) (p : Nat) : Nat → Int
  | 0 => 0
  | k + 1 => if p + k < l.length then numF l p k * 10 + bt l (p + k) % 16 else numF l p k
theorem numF_bd (l : List UInt8) (p : Nat) : ∀ k, k ≤ 4 → 0 ≤ numF l p k ∧ numF l p k ≤ 16665 ∧ (k ≤ 3 → numF l p k ≤ 1665) ∧ (k ≤ 2 → numF l p k ≤ 165) ∧ (k ≤ 1 → numF l p k ≤ 15) ∧ (k = 0 → numF l p k = 0)
  | 0, _ => by simp [numF]
  | k + 1, h => by
    have := numF_bd l p k (by omega)
    unfold numF
    split <;> omega
def ry2 (l : List UInt8) : Int := if 1900 + numF l 0 2 < 1950 then 1900 + numF l 0 2 + 100 else 1900 + numF l 0 2

theorem num_pr {l : List UInt8} {dg p : Nat} (h : okC dg l) (hp : p + 1 < dg + 10) : numF l p 2 = pr l p := by
  have h1 := h.2.2 p (by omega)
  have h2 := h.2.2 (p + 1) hp
  have hl := h.1
  unfold numF numF numF pr
  rw [if_pos (by omega), if_pos (by omega)]
  simp only [Nat.add_zero]
  omega
theorem ry_yr {l : List UInt8} (h : okC 2 l) : ry2 l = yr2 l := by
  unfold ry2 yr2
  rw [num_pr h (by omega)]
  split <;> split <;> omega
theorem num_yr4 {l : List UInt8} (h : okC 4 l) : numF l 0 4 = yr4 l := by
  have h0 := h.2.2 0 (by omega)
  have h1 := h.2.2 1 (by omega)
  have h2 := h.2.2 2 (by omega)
  have h3 := h.2.2 3 (by omega)
  have hl := h.1
  unfold numF numF numF numF numF yr4 pr
  rw [if_pos (by omega), if_pos (by omega), if_pos (by omega), if_pos (by omega)]
  simp only [Nat.add_zero, Nat.zero_add, Nat.reduceAdd]
  omega

theorem dig_mem {n : Int} (h0 : 0 ≤ n) (h1 : n ≤ 99) {b : UInt8} (hb : b ∈ dig n) : 48 ≤ (b.toNat : Int) ∧ (b.toNat : Int) ≤ 57 := by
  simp only [dig, List.mem_cons, List.not_mem_nil, or_false] at hb
  rcases hb with rfl | rfl
  · rw [ofI_toNat (by omega) (by omega)]; omega
  · rw [ofI_toNat (by omega) (by omega)]; omega
theorem digs_mem {fs : List Int} (h : ∀ n ∈ fs, 0 ≤ n ∧ n ≤ 99) {b : UInt8} (hb : b ∈ digs fs) : 48 ≤ (b.toNat : Int) ∧ (b.toNat : Int) ≤ 57 := by
  simp only [digs, List.mem_flatMap] at hb
  obtain ⟨n, hn, hb⟩ := hb
  exact dig_mem (h n hn).1 (h n hn).2 hb
theorem bt_left {l m : List UInt8} {k : Nat} (h : k < l.length) : bt (l ++ m) k = bt l k := by
  unfold bt; simp [List.getD, List.getElem?_append_left h]
theorem bt_right {l m : List UInt8} {k : Nat} (h : l.length ≤ k) : bt (l ++ m) k = bt m (k - l.length) := by
  unfold bt; simp [List.getD, List.getElem?_append_right h]
theorem okC_digs {fs : List Int} {dg : Nat} (hl : 2 * fs.length = dg + 10) (h : ∀ n ∈ fs, 0 ≤ n ∧ n ≤ 99) : okC dg (digs fs ++ [90]) := by
  have hd := digs_len fs
  refine ⟨by simp [hd]; omega, ?_, fun k hk => ?_⟩
  · rw [bt_right (by omega), show dg + 10 - (digs fs).length = 0 by omega]; rfl
  · rw [bt_left (by omega), bt_eq (by omega)]
    exact digs_mem h (List.getElem_mem _)
theorem pr_digs : ∀ {fs : List Int} (m : List UInt8) {i : Nat}, i < fs.length → (∀ n ∈ fs, 0 ≤ n ∧ n ≤ 99) → pr (digs fs ++ m) (2 * i) = fs.getD i 0
  | [], m, i, h, _ => by simp at h
  | n :: fs, m, 0, _, hb => by
    have := hb n (by simp)
    have e : digs (n :: fs) ++ m = ofI (48 + n / 10) :: ofI (48 + n % 10) :: (digs fs ++ m) := by simp [digs, dig]
    rw [e]
    have e0 : bt (ofI (48 + n / 10) :: ofI (48 + n % 10) :: (digs fs ++ m)) 0 = 48 + n / 10 := ofI_toNat (by omega) (by omega)
    have e1 : bt (ofI (48 + n / 10) :: ofI (48 + n % 10) :: (digs fs ++ m)) 1 = 48 + n % 10 := ofI_toNat (by omega) (by omega)
    unfold pr
    rw [Nat.mul_zero, Nat.zero_add, e0, e1]
    show _ = n
    omega
  | n :: fs, m, i + 1, h, hb => by
    have ih := pr_digs (fs := fs) m (i := i) (by simpa using h) (fun x hx => hb x (by simp [hx]))
    have e : digs (n :: fs) ++ m = ofI (48 + n / 10) :: ofI (48 + n % 10) :: (digs fs ++ m) := by simp [digs, dig]
    rw [e]
    show _ = fs.getD i 0
    rw [← ih]
    rfl
theorem utc_digs (y m d h mi s : Int) : utcL y m d h mi s = digs [y % 100, m, d, h, mi, s] ++ [90] := by simp [utcL, tailL, digs, List.append_assoc]
theorem gen_digs (y m d h mi s : Int) : genL y m d h mi s = digs [y / 100, y % 100, m, d, h, mi, s] ++ [90] := by simp [genL, tailL, digs, List.append_assoc]

theorem six {a b c d e f : Int} {P : Int → Prop} (h1 : P a) (h2 : P b) (h3 : P c) (h4 : P d) (h5 : P e) (h6 : P f) : ∀ n ∈ [a, b, c, d, e, f], P n := by
  intro n hn
  simp only [List.mem_cons, List.not_mem_nil, or_false] at hn
  rcases hn with rfl | rfl | rfl | rfl | rfl | rfl <;> assumption
theorem seven {a b c d e f g : Int} {P : Int → Prop} (h1 : P a) (h2 : P b) (h3 : P c) (h4 : P d) (h5 : P e) (h6 : P f) (h7 : P g) : ∀ n ∈ [a, b, c, d, e, f, g], P n := by
  intro n hn
  simp only [List.mem_cons, List.not_mem_nil, or_false] at hn
  rcases hn with rfl | rfl | rfl | rfl | rfl | rfl | rfl <;> assumption

/-- what is encoded is decoded -/
theorem utc_back {y m d h mi s : Int} (hv : utcCode y m d h mi s = 0) : okU (utcL y m d h mi s) ∧ yr2 (utcL y m d h mi s) = y ∧ pr (utcL y m d h mi s) 2 = m ∧ pr (utcL y m d h mi s) 4 = d ∧ pr (utcL y m d h mi s) 6 = h ∧ pr (utcL y m d h mi s) 8 = mi ∧ pr (utcL y m d h mi s) 10 = s := by
  have hval : validB y m d h mi s = true := by
    cases hq : validB y m d h mi s
    · unfold utcCode at hv; rw [hq] at hv; simp at hv
    · rfl
  have hr : ¬ (y < 1950 ∨ 2049 < y) := by
    intro hr; unfold utcCode at hv; rw [if_pos hval, if_pos hr] at hv; omega
  have bd := valid_bd hval
  have hb : ∀ n ∈ [y % 100, m, d, h, mi, s], 0 ≤ n ∧ n ≤ 99 := six (by omega) (by omega) (by omega) (by omega) (by omega) (by omega)
  rw [utc_digs]
  have q0 : pr (digs [y % 100, m, d, h, mi, s] ++ [90]) 0 = y % 100 := pr_digs [90] (i := 0) (by simp) hb
  have q1 : pr (digs [y % 100, m, d, h, mi, s] ++ [90]) 2 = m := pr_digs [90] (i := 1) (by simp) hb
  have q2 : pr (digs [y % 100, m, d, h, mi, s] ++ [90]) 4 = d := pr_digs [90] (i := 2) (by simp) hb
  have q3 : pr (digs [y % 100, m, d, h, mi, s] ++ [90]) 6 = h := pr_digs [90] (i := 3) (by simp) hb
  have q4 : pr (digs [y % 100, m, d, h, mi, s] ++ [90]) 8 = mi := pr_digs [90] (i := 4) (by simp) hb
  have q5 : pr (digs [y % 100, m, d, h, mi, s] ++ [90]) 10 = s := pr_digs [90] (i := 5) (by simp) hb
  have hy : yr2 (digs [y % 100, m, d, h, mi, s] ++ [90]) = y := by unfold yr2; rw [q0]; split <;> omega
  refine ⟨⟨okC_digs (by simp) hb, ?_⟩, hy, q1, q2, q3, q4, q5⟩
  rw [hy, q1, q2, q3, q4, q5]; exact hval
theorem gen_back {y m d h mi s : Int} (hv : genCode y m d h mi s = 0) : okG (genL y m d h mi s) ∧ yr4 (genL y m d h mi s) = y ∧ pr (genL y m d h mi s) 4 = m ∧ pr (genL y m d h mi s) 6 = d ∧ pr (genL y m d h mi s) 8 = h ∧ pr (genL y m d h mi s) 10 = mi ∧ pr (genL y m d h mi s) 12 = s := by
  have hval : validB y m d h mi s = true := by
    cases hq : validB y m d h mi s
    · unfold genCode at hv; rw [hq] at hv; simp at hv
    · rfl
  have bd := valid_bd hval
  have hb : ∀ n ∈ [y / 100, y % 100, m, d, h, mi, s], 0 ≤ n ∧ n ≤ 99 := seven (by omega) (by omega) (by omega) (by omega) (by omega) (by omega) (by omega)
  rw [gen_digs]
  have q : pr (digs [y / 100, y % 100, m, d, h, mi, s] ++ [90]) 0 = y / 100 := pr_digs [90] (i := 0) (by simp) hb
  have q0 : pr (digs [y / 100, y % 100, m, d, h, mi, s] ++ [90]) 2 = y % 100 := pr_digs [90] (i := 1) (by simp) hb
  have q1 : pr (digs [y / 100, y % 100, m, d, h, mi, s] ++ [90]) 4 = m := pr_digs [90] (i := 2) (by simp) hb
  have q2 : pr (digs [y / 100, y % 100, m, d, h, mi, s] ++ [90]) 6 = d := pr_digs [90] (i := 3) (by simp) hb
  have q3 : pr (digs [y / 100, y % 100, m, d, h, mi, s] ++ [90]) 8 = h := pr_digs [90] (i := 4) (by simp) hb
  have q4 : pr (digs [y / 100, y % 100, m, d, h, mi, s] ++ [90]) 10 = mi := pr_digs [90] (i := 5) (by simp) hb
  have q5 : pr (digs [y / 100, y % 100, m, d, h, mi, s] ++ [90]) 12 = s := pr_digs [90] (i := 6) (by simp) hb
  have hy : yr4 (digs [y / 100, y % 100, m, d, h, mi, s] ++ [90]) = y := by unfold yr4; rw [q, q0]; omega
  refine ⟨⟨okC_digs (by simp) hb, ?_⟩, hy, q1, q2, q3, q4, q5⟩
  rw [hy, q1, q2, q3, q4, q5]; exact hval

theorem dig_pr {l : List UInt8} {dg p : Nat} (h : okC dg l) (hp : p + 1 < dg + 10) : dig (pr l p) = [l.getD p 0, l.getD (p + 1) 0] := by
  have h1 := h.2.2 p (by omega)
  have h2 := h.2.2 (p + 1) hp
  have e1 : 48 + pr l p / 10 = bt l p := by unfold pr; omega
  have e2 : 48 + pr l p % 10 = bt l (p + 1) := by unfold pr; omega
  unfold dig
  rw [e1, e2]
  unfold bt
  rw [ofI_byte, ofI_byte]
theorem last_z {l : List UInt8} {dg : Nat} (h : okC dg l) : l.getD (dg + 10) 0 = 90 := by
  have := h.2.1
  unfold bt at this
  apply UInt8.toNat_inj.mp
  show _ = 90
  omega
theorem list13 {l : List UInt8} (h : l.length = 13) : [l.getD 0 0, l.getD 1 0, l.getD 2 0, l.getD 3 0, l.getD 4 0, l.getD 5 0, l.getD 6 0, l.getD 7 0, l.getD 8 0, l.getD 9 0, l.getD 10 0, l.getD 11 0, l.getD 12 0] = l := by
  match l, h with
  | [a0, a1, a2, a3, a4, a5, a6, a7, a8, a9, a10, a11, a12], _ => rfl
theorem list15 {l : List UInt8} (h : l.length = 15) : [l.getD 0 0, l.getD 1 0, l.getD 2 0, l.getD 3 0, l.getD 4 0, l.getD 5 0, l.getD 6 0, l.getD 7 0, l.getD 8 0, l.getD 9 0, l.getD 10 0, l.getD 11 0, l.getD 12 0, l.getD 13 0, l.getD 14 0] = l := by
  match l, h with
  | [a0, a1, a2, a3, a4, a5, a6, a7, a8, a9, a10, a11, a12, a13, a14], _ => rfl

/-- what is decoded is encoded as what was read -/
theorem utc_of {l : List UInt8} (hok : okU l) : utcCode (yr2 l) (pr l 2) (pr l 4) (pr l 6) (pr l 8) (pr l 10) = 0 ∧ utcBytes (yr2 l) (pr l 2) (pr l 4) (pr l 6) (pr l 8) (pr l 10) = l := by
  obtain ⟨h, hv⟩ := hok
  have b0 := pr_bd h (show 0 + 1 < 2 + 10 by omega)
  have hc : utcCode (yr2 l) (pr l 2) (pr l 4) (pr l 6) (pr l 8) (pr l 10) = 0 := by
    unfold utcCode
    rw [if_pos hv, if_neg]
    unfold yr2
    split <;> omega
  refine ⟨hc, ?_⟩
  unfold utcBytes
  rw [if_pos hc, utc_digs]
  have hy : yr2 l % 100 = pr l 0 := by unfold yr2; split <;> omega
  rw [hy]
  show dig (pr l 0) ++ (dig (pr l 2) ++ (dig (pr l 4) ++ (dig (pr l 6) ++ (dig (pr l 8) ++ (dig (pr l 10) ++ []))))) ++ [90] = l
  rw [dig_pr h (by omega), dig_pr h (by omega), dig_pr h (by omega), dig_pr h (by omega), dig_pr h (by omega), dig_pr h (by omega), ← last_z h]
  exact list13 h.1
theorem gen_of {l : List UInt8} (hok : okG l) : genCode (yr4 l) (pr l 4) (pr l 6) (pr l 8) (pr l 10) (pr l 12) = 0 ∧ genBytes (yr4 l) (pr l 4) (pr l 6) (pr l 8) (pr l 10) (pr l 12) = l := by
  obtain ⟨h, hv⟩ := hok
  have b0 := pr_bd h (show 0 + 1 < 4 + 10 by omega)
  have b2 := pr_bd h (show 2 + 1 < 4 + 10 by omega)
  have hc : genCode (yr4 l) (pr l 4) (pr l 6) (pr l 8) (pr l 10) (pr l 12) = 0 := by
    unfold genCode
    rw [if_pos hv]
  refine ⟨hc, ?_⟩
  unfold genBytes
  rw [if_pos hc, gen_digs]
  have hy : yr4 l % 100 = pr l 2 := by unfold yr4; omega
  have hy' : yr4 l / 100 = pr l 0 := by unfold yr4; omega
  rw [hy, hy']
  show dig (pr l 0) ++ (dig (pr l 2) ++ (dig (pr l 4) ++ (dig (pr l 6) ++ (dig (pr l 8) ++ (dig (pr l 10) ++ (dig (pr l 12) ++ [])))))) ++ [90] = l
  rw [dig_pr h (by omega), dig_pr h (by omega), dig_pr h (by omega), dig_pr h (by omega), dig_pr h (by omega), dig_pr h (by omega), dig_pr h (by omega), ← last_z h]
  exact list15 h.1

/-- the reference's test is the clock's -/
theorem utc_iff (l : List UInt8) : (utcCode (ry2 l) (numF l 2 2) (numF l 4 2) (numF l 6 2) (numF l 8 2) (numF l 10 2) = 0 ∧ utcBytes (ry2 l) (numF l 2 2) (numF l 4 2) (numF l 6 2) (numF l 8 2) (numF l 10 2) = l) ↔ okU l := by
  constructor
  · rintro ⟨hc, hb⟩
    unfold utcBytes at hb
    rw [if_pos hc] at hb
    have := (utc_back hc).1
    rw [hb] at this
    exact this
  · intro h
    rw [ry_yr h.1, num_pr h.1 (by omega), num_pr h.1 (by omega), num_pr h.1 (by omega), num_pr h.1 (by omega), num_pr h.1 (by omega)]
    exact utc_of h
theorem gen_iff (l : List UInt8) : (genCode (numF l 0 4) (numF l 4 2) (numF l 6 2) (numF l 8 2) (numF l 10 2) (numF l 12 2) = 0 ∧ genBytes (numF l 0 4) (numF l 4 2) (numF l 6 2) (numF l 8 2) (numF l 10 2) (numF l 12 2) = l) ↔ okG l := by
  constructor
  · rintro ⟨hc, hb⟩
    unfold genBytes at hb
    rw [if_pos hc] at hb
    have := (gen_back hc).1
    rw [hb] at this
    exact this
  · intro h
    rw [num_yr4 h.1, num_pr h.1 (by omega), num_pr h.1 (by omega), num_pr h.1 (by omega), num_pr h.1 (by omega), num_pr h.1 (by omega)]
    exact gen_of h
end Go.Proofs.Ytnpmgofkfdpbjaa.Clk
/- Walks: the reference's encodings of points in time. -/
namespace Go.Proofs.Ytnpmgofkfdpbjaa.Clk
open Go.RowKit Kit

/-- a list of bytes as a string -/
def sb (l : List UInt8) : ByteArray := ⟨l.toArray⟩
theorem sb_append (l m : List UInt8) : sb l ++ sb m = sb (l ++ m) := by
  apply ByteArray.ext
  simp [sb, ByteArray.data_append]
theorem sb_size (l : List UInt8) : (sb l).size = l.length := by simp [sb, ByteArray.size]
/-- the reference's table of digits, cut -/
theorem tab_cut {r : Nat} (h : r < 10) : (ByteArray.mk #[48, 49, 50, 51, 52, 53, 54, 55, 56, 57]).extract r (r + 1) = sb [ofI (48 + (r : Int))] := by
  have hr : r = 0 ∨ r = 1 ∨ r = 2 ∨ r = 3 ∨ r = 4 ∨ r = 5 ∨ r = 6 ∨ r = 7 ∨ r = 8 ∨ r = 9 := by omega
  rcases hr with rfl | rfl | rfl | rfl | rfl | rfl | rfl | rfl | rfl | rfl <;> decide

theorem TimeB_lt {w : World} {b : Nat} {o : Obj} (h : w.heap[b]? = some o) : b < w.heap.size := Blk_lt h
/-- the cells of a block of six -/
theorem cells6 {w : World} {b : Nat} {x0 x1 x2 x3 x4 x5 : Value} {t : TypeId} (h : w.heap[b]? = some (.cells #[x0, x1, x2, x3, x4, x5] t (0, 0))) :
    w.cell? ⟨b, 0, none⟩ = some x0 ∧ w.cell? ⟨b, 1, none⟩ = some x1 ∧ w.cell? ⟨b, 2, none⟩ = some x2 ∧ w.cell? ⟨b, 3, none⟩ = some x3 ∧ w.cell? ⟨b, 4, none⟩ = some x4 ∧ w.cell? ⟨b, 5, none⟩ = some x5 := by
  refine ⟨?_, ?_, ?_, ?_, ?_, ?_⟩ <;> (rw [cell_of_row w b _ _ _ _ h]; rfl)

set_option maxHeartbeats 1000000 in
theorem digits_any (c : Nat) : ∀ (n : Int) (w : World), 0 ≤ n → n ≤ 1000000 → c ≤ 10 →
    Calls Try.prog 135 #[.int .i64 n, .int .i64 (c : Int)] w fun e w' => e = .returned (.string (sb (digL n c))) ∧ ∃ m, w' = w.drewN m := by
  induction c with
  | zero =>
    intro n w h0 h1 hc
    go_enter Try.func135, Try.ntmps135
    go_wp2_with fail
    go_ret
    exact ⟨rfl, (by first | exact ⟨0, rfl⟩ | exact ⟨_, rfl⟩ | (simp only [World.drewN_drewN]; exact ⟨_, rfl⟩))⟩
  | succ c ih =>
    intro n w h0 h1 hc
    have IH := Lib.hid (fun w => ih (n / 10) w (by omega) (by omega) (by omega))
    have hm : n.tmod 10 = n % 10 := Int.tmod_eq_emod_of_nonneg h0
    have hd : n.tdiv 10 = n / 10 := Int.tdiv_eq_ediv_of_nonneg h0
    have hc1 : ((c + 1 : Nat) : Int) - 1 = (c : Int) := by omega
    obtain ⟨r, hr⟩ : ∃ r : Nat, n % 10 = (r : Int) := ⟨(n % 10).toNat, by omega⟩
    have hr10 : r < 10 := by omega
    have HR := Lib.hid hr
    clear ih
    go_enter Try.func135, Try.ntmps135
    go_wp2_with fail
    have hw1 : IntKind.i64.wrap (n / 10) = n / 10 := IntWalk.i64_in _ (by omega)
    have hw2 : IntKind.i64.wrap (c : Int) = (c : Int) := IntWalk.i64_in _ (by omega)
    have hw3 : IntKind.i64.wrap ((r : Int) + 1) = (r : Int) + 1 := IntWalk.i64_in _ (by omega)
    have hn3 : ((r : Int) + 1).toNat = r + 1 := by omega
    have hr0 : (0 : Int) ≤ (r : Int) + 1 := by omega
    have hr1 : (r : Int) ≤ (r : Int) + 1 := by omega
    have hr2 : (r : Int) + 1 ≤ 10 := by omega
    have hcut := tab_cut hr10
    have hs1 : (sb (digL (n / 10) c)).size = c := by rw [sb_size, digL_len]
    have hs2 : (sb [ofI (48 + (r : Int))]).size = 1 := by rw [sb_size]; rfl
    have hcc : c ≤ 10 := by omega
    go_quiet ((go_at_call 135; exact Calls.quiet_of (IH.out _)))
    go_wp2
    go_ret
    refine ⟨?_, (by first | exact ⟨0, rfl⟩ | exact ⟨_, rfl⟩ | (simp only [World.drewN_drewN]; exact ⟨_, rfl⟩))⟩
    rw [sb_append]
    show _ = Ending.returned (.string (sb (digL (n / 10) c ++ [ofI (48 + n % 10)])))
    rw [HR.out]
    rfl

set_option maxHeartbeats 1000000 in
theorem reftail_any (y m d h mi s : Int) (w : World) (hv : 0 ≤ m ∧ m ≤ 99 ∧ 0 ≤ d ∧ d ≤ 99 ∧ 0 ≤ h ∧ h ≤ 99 ∧ 0 ≤ mi ∧ mi ≤ 99 ∧ 0 ≤ s ∧ s ≤ 99) :
    Calls Try.prog 136 #[time y m d h mi s] w fun e w' => e = .returned (.string (sb (tailL m d h mi s))) ∧ Below w.heap.size w w' := by
  have HT := Lib.hid (show digL m 2 ++ (digL d 2 ++ (digL h 2 ++ (digL mi 2 ++ (digL s 2 ++ [90])))) = tailL m d h mi s from by
    rw [digL_two (by omega) (by omega), digL_two (by omega) (by omega), digL_two (by omega) (by omega), digL_two (by omega) (by omega), digL_two (by omega) (by omega)]
    simp [tailL])
  have HD := Lib.hid (fun (n : Int) (w : World) (h0 : 0 ≤ n) (h1 : n ≤ 99) => digits_any 2 n w h0 (by omega) (by omega))
  have h9 : (ByteArray.mk #[90]) = sb [90] := rfl
  have hsa := sb_append
  have hss := sb_size
  have hdl := digL_len
  obtain ⟨v0, v1, v2, v3, v4, v5, v6, v7, v8, v9⟩ := hv
  go_enter Try.func136, Try.ntmps136
  go_wp2_with fail
  go_quiet ((go_at_call 135; exact Calls.quiet_of (HD.out _ _ (by omega) (by omega))))
  go_wp2
  go_ret
  refine ⟨?_, (by repeat' (first | (with_reducible exact Below.refl _ _) | (with_reducible assumption) | (with_reducible refine below_drewN ?_ _) | (with_reducible refine Below.drew ?_) | (with_reducible refine Below.alloc ?_ ?_ _) | (with_reducible refine Below.setCell ?_ ?_ _) | go_size))⟩
  rw [← HT.out]
  simp [sb_append, List.append_assoc]

/-- the bytes of a string, just converted, read as the string's list -/
theorem conv_rd (X : World) (l : List UInt8) (cap : Nat) (fr : Nat × Nat) : Rd (X.alloc (.cells (bytesRow (sb l) cap) 5 fr)) (X.heap.size + 1) (some ⟨X.heap.size, 0, none⟩) l.length l := by
  refine ⟨rfl, fun _ => ⟨_, rfl, Nat.lt_succ_self _, fun k hk => ?_⟩⟩
  rw [add_plain, Nat.zero_add, cell_of_row _ X.heap.size k _ _ _ (heap_alloc_new X _), bt_eq hk]
  unfold bytesRow sb
  rw [Array.getElem?_append_left (by simpa using hk)]
  simp [List.getElem?_eq_getElem hk]

set_option maxHeartbeats 2000000 in
theorem refencUTC_any (y m d h mi s : Int) (w : World) :
    Calls Try.prog 83 #[time y m d h mi s] w fun e w' => ∃ A n c, e = .returned (.tuple #[.slice A n c, .int .i64 (utcCode y m d h mi s)]) ∧ Rd w' w'.heap.size A n (utcBytes y m d h mi s) ∧ Below w.heap.size w w' := by
  cases hv : validB y m d h mi s
  · have C := Lib.hid (show utcCode y m d h mi s = 8 from by unfold utcCode; rw [hv]; simp)
    have B := Lib.hid (show utcBytes y m d h mi s = [] from by unfold utcBytes; rw [C.out]; simp)
    have HV := Lib.hid hv
    clear hv
    go_enter Try.func83, Try.ntmps83
    go_wp2_with (first | (go_at_call 87; refine (refvalid_any _ _ _ _ _ _ _).mono ?_; rw [HV.out]; rintro e w1 ⟨rfl, hb1⟩))
    go_ret2
    exact ⟨none, 0, 0, ret2 rfl (vint C.out.symm), by rw [B.out]; exact Rd.nil_, bel1 hb1⟩
  · have bd := valid_bd hv
    have HV := Lib.hid hv
    by_cases hy : y < 1950 ∨ 2049 < y
    · have C := Lib.hid (show utcCode y m d h mi s = 9 from by unfold utcCode; rw [if_pos hv, if_pos hy])
      have B := Lib.hid (show utcBytes y m d h mi s = [] from by unfold utcBytes; rw [C.out]; simp)
      clear hv
      by_cases hy1 : y < 1950
      · clear hy
        go_enter Try.func83, Try.ntmps83
        go_wp2_with (first | (go_at_call 87; refine (refvalid_any _ _ _ _ _ _ _).mono ?_; rw [HV.out]; rintro e w1 ⟨rfl, hb1⟩; obtain ⟨q0, q1, q2, q3, q4, q5⟩ := cells6 (blk1 hb1)))
        go_ret2
        exact ⟨none, 0, 0, ret2 rfl (vint C.out.symm), by rw [B.out]; exact Rd.nil_, bel1 hb1⟩
      · have hy2 : 2049 < y := by omega
        clear hy
        go_enter Try.func83, Try.ntmps83
        go_wp2_with (first | (go_at_call 87; refine (refvalid_any _ _ _ _ _ _ _).mono ?_; rw [HV.out]; rintro e w1 ⟨rfl, hb1⟩; obtain ⟨q0, q1, q2, q3, q4, q5⟩ := cells6 (blk1 hb1)))
        go_ret2
        exact ⟨none, 0, 0, ret2 rfl (vint C.out.symm), by rw [B.out]; exact Rd.nil_, bel1 hb1⟩
    · have C := Lib.hid (show utcCode y m d h mi s = 0 from by unfold utcCode; rw [if_pos hv, if_neg hy])
      have B := Lib.hid (show utcBytes y m d h mi s = utcL y m d h mi s from by unfold utcBytes; rw [if_pos C.out])
      have hy1 : ¬ y < 1950 := by omega
      have hy2 : ¬ 2049 < y := by omega
      clear hv hy
      go_enter Try.func83, Try.ntmps83
      go_wp2_with (first | (go_at_call 87; refine (refvalid_any _ _ _ _ _ _ _).mono ?_; rw [HV.out]; rintro e w1 ⟨rfl, hb1⟩; have tb := blk1 hb1; obtain ⟨q0, q1, q2, q3, q4, q5⟩ := cells6 tb))
      have HU := Lib.hid (show digL y 2 ++ tailL m d h mi s = utcBytes y m d h mi s from by rw [B.out, digL_year2 bd.1]; rfl)
      have kc := fun (w : World) (s : ByteArray) => run_bytes_of_string (P := Try.prog) w 9 29 5 s Try.underlying9 Try.underlying29 Try.underlying5
      have hsa := sb_append
      have hss := sb_size
      have HD := Lib.hid (fun (w : World) => digits_any 2 y w (by omega) (by omega) (by omega))
      have hl1 : (digL y 2).length = 2 := digL_len _ _
      have hl2 : (tailL m d h mi s).length = 11 := rfl
      go_region_with (first | (go_at_call 135; refine (HD.out _).mono ?_; rintro e w2 ⟨rfl, m2, rfl⟩) | (go_at_call 136; refine (reftail_any _ _ _ _ _ _ _ (by omega)).mono ?_; rintro e w3 ⟨rfl, hb3⟩; obtain ⟨p0, p1, p2, p3, p4, p5⟩ := cells6 ((hb3.block _ (TimeB_lt tb)).trans tb)))
      all_goals
        go_wp2
        go_ret2
        have hz1 : w.heap.size ≤ w1.heap.size := (bel1 hb1).size
        have hz3 : w1.heap.size ≤ w3.heap.size := hb3.size
        refine ⟨_, _, _, ret2 rfl (vint C.out.symm), ?_, ?_⟩
        · exact (((conv_rd w3 (digL y 2 ++ tailL m d h mi s) (grownCap w3 13 0 5) _).drew).more (by simp)).cast (by simp [hl1, hl2]) HU.out
        · exact (((below_drewN (bel1 hb1) (1 + m2)).trans (hb3.mono hz1)).alloc (by omega) _).drew
end Go.Proofs.Ytnpmgofkfdpbjaa.Clk
/- Walk: the reference's encoding of a GeneralizedTime. -/
namespace Go.Proofs.Ytnpmgofkfdpbjaa.Clk
open Go.RowKit Kit

set_option maxHeartbeats 2000000 in
theorem refencGen_any (y m d h mi s : Int) (w : World) :
    Calls Try.prog 85 #[time y m d h mi s] w fun e w' => ∃ A n c, e = .returned (.tuple #[.slice A n c, .int .i64 (genCode y m d h mi s)]) ∧ Rd w' w'.heap.size A n (genBytes y m d h mi s) ∧ Below w.heap.size w w' := by
  cases hv : validB y m d h mi s
  · have C := Lib.hid (show genCode y m d h mi s = 8 from by unfold genCode; rw [hv]; simp)
    have B := Lib.hid (show genBytes y m d h mi s = [] from by unfold genBytes; rw [C.out]; simp)
    have HV := Lib.hid hv
    clear hv
    go_enter Try.func85, Try.ntmps85
    go_wp2_with (first | (go_at_call 87; refine (refvalid_any _ _ _ _ _ _ _).mono ?_; rw [HV.out]; rintro e w1 ⟨rfl, hb1⟩))
    go_ret2
    exact ⟨none, 0, 0, ret2 rfl (vint C.out.symm), by rw [B.out]; exact Rd.nil_, bel1 hb1⟩
  · have bd := valid_bd hv
    have HV := Lib.hid hv
    have C := Lib.hid (show genCode y m d h mi s = 0 from by unfold genCode; rw [if_pos hv])
    have B := Lib.hid (show genBytes y m d h mi s = genL y m d h mi s from by unfold genBytes; rw [if_pos C.out])
    clear hv
    go_enter Try.func85, Try.ntmps85
    go_wp2_with (first | (go_at_call 87; refine (refvalid_any _ _ _ _ _ _ _).mono ?_; rw [HV.out]; rintro e w1 ⟨rfl, hb1⟩; have tb := blk1 hb1; obtain ⟨q0, q1, q2, q3, q4, q5⟩ := cells6 tb))
    have HU := Lib.hid (show digL y 4 ++ tailL m d h mi s = genBytes y m d h mi s from by rw [B.out, digL_year4 bd.1 bd.2.1]; rfl)
    have kc := fun (w : World) (s : ByteArray) => run_bytes_of_string (P := Try.prog) w 9 29 5 s Try.underlying9 Try.underlying29 Try.underlying5
    have hsa := sb_append
    have hss := sb_size
    have HD := Lib.hid (fun (w : World) => digits_any 4 y w (by omega) (by omega) (by omega))
    have hl1 : (digL y 4).length = 4 := digL_len _ _
    have hl2 : (tailL m d h mi s).length = 11 := rfl
    go_region_with (first | (go_at_call 135; refine (HD.out _).mono ?_; rintro e w2 ⟨rfl, m2, rfl⟩) | (go_at_call 136; refine (reftail_any _ _ _ _ _ _ _ (by omega)).mono ?_; rintro e w3 ⟨rfl, hb3⟩; obtain ⟨p0, p1, p2, p3, p4, p5⟩ := cells6 ((hb3.block _ (TimeB_lt tb)).trans tb)))
    all_goals
      go_wp2
      go_ret2
      have hz1 : w.heap.size ≤ w1.heap.size := (bel1 hb1).size
      have hz3 : w1.heap.size ≤ w3.heap.size := hb3.size
      refine ⟨_, _, _, ret2 rfl (vint C.out.symm), ?_, ?_⟩
      · exact (((conv_rd w3 (digL y 4 ++ tailL m d h mi s) (grownCap w3 15 0 5) _).drew).more (by simp)).cast (by simp [hl1, hl2]) HU.out
      · exact (((below_drewN (bel1 hb1) (1 + m2)).trans (hb3.mono hz1)).alloc (by omega) _).drew
end Go.Proofs.Ytnpmgofkfdpbjaa.Clk
