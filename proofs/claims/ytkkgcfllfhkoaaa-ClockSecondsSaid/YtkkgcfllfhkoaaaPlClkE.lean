/- Plain mathematics of the calendar: days before a year, seconds since 1970, their order. No program in sight. -/
import Derived.Test.YtkkgcfllfhkoaaaPlClk
set_option linter.unusedSimpArgs false
set_option linter.unusedVariables false
namespace Go.Proofs.Ytkkgcfllfhkoaaa.Clk

/-- the number of days ahead of a year -/
def bef (y : Int) : Int := if y = 0 then 0 else 365 * y + (y - 1) / 4 - (y - 1) / 100 + (y - 1) / 400 + 1

theorem bef_zero : bef 0 = 0 := rfl
theorem bef_pos {y : Int} (h : y ≠ 0) : bef y = 365 * y + (y - 1) / 4 - (y - 1) / 100 + (y - 1) / 400 + 1 := by unfold bef; rw [if_neg h]
/-- the length of a year -/
def ylen (y : Int) : Int := if leapB y = true then 366 else 365
theorem bef_succ {y : Int} (h : 0 ≤ y) : bef (y + 1) = bef y + ylen y := by
  rw [bef_pos (by omega)]
  unfold ylen
  by_cases h0 : y = 0
  · subst h0; decide
  · rw [bef_pos h0]
    split
    · rename_i hl; rw [leap_iff] at hl; omega
    · rename_i hl; rw [leap_iff] at hl; omega
theorem ylen_bd (y : Int) : 365 ≤ ylen y ∧ ylen y ≤ 366 := by unfold ylen; split <;> omega
theorem bef_le_366 {y : Int} (h : 0 ≤ y) : bef y ≤ 366 * y := by
  unfold bef; split
  · omega
  · omega
theorem bef_nonneg {y : Int} (h : 0 ≤ y) : 365 * y ≤ bef y := by
  unfold bef; split
  · omega
  · omega
theorem bef_mono_nat (x : Int) (h : 0 ≤ x) : ∀ k : Nat, bef x + 365 * k ≤ bef (x + k)
  | 0 => by simp
  | k + 1 => by
    have ih := bef_mono_nat x h k
    have e : x + ((k + 1 : Nat) : Int) = (x + k) + 1 := by omega
    have hs := bef_succ (y := x + k) (by omega)
    have hy := ylen_bd (x + k)
    rw [e, hs]
    omega
theorem bef_mono {x y : Int} (h : 0 ≤ x) (hxy : x ≤ y) : bef x + 365 * (y - x) ≤ bef y := by
  obtain ⟨k, hk⟩ := Int.eq_ofNat_of_zero_le (show 0 ≤ y - x by omega)
  have := bef_mono_nat x h k
  have e : y = x + k := by omega
  subst e
  omega
theorem bef_lt {x y : Int} (h : 0 ≤ x) (hxy : x < y) : bef x + ylen x ≤ bef y := by
  have h1 := bef_mono (x := x + 1) (y := y) (by omega) (by omega)
  have h2 := bef_succ h
  omega
theorem bef_max : bef 10000 = 3652425 := by decide

/-- the days of the first k months -/
def msum (y : Int) : Nat → Int
  | 0 => 0
  | k + 1 => msum y k + days y ((k : Int) + 1)
theorem msum_le (y : Int) (k : Nat) : ∀ j, msum y k ≤ msum y (k + j)
  | 0 => Int.le_refl _
  | j + 1 => by
    have ih := msum_le y k j
    have hb := days_bd y (((k + j : Nat) : Int) + 1)
    show msum y k ≤ msum y (k + j) + days y (((k + j : Nat) : Int) + 1)
    omega
theorem msum_bd (y : Int) : ∀ k, 0 ≤ msum y k ∧ msum y k ≤ 31 * k
  | 0 => ⟨Int.le_refl _, Int.le_refl _⟩
  | k + 1 => by
    have ih := msum_bd y k
    have hb := days_bd y ((k : Int) + 1)
    have e : msum y (k + 1) = msum y k + days y ((k : Int) + 1) := rfl
    rw [e]
    omega
/-- the same, at an Int -/
def ms (y m : Int) : Int := msum y (m - 1).toNat
theorem ms_one (y : Int) : ms y 1 = 0 := rfl
theorem ms_succ (y : Int) {m : Int} (h : 1 ≤ m) : ms y (m + 1) = ms y m + days y m := by
  unfold ms
  obtain ⟨k, hk⟩ := Int.eq_ofNat_of_zero_le (show 0 ≤ m - 1 by omega)
  have e1 : (m + 1 - 1).toNat = k + 1 := by omega
  have e2 : (m - 1).toNat = k := by omega
  rw [e1, e2]
  show msum y k + days y ((k : Int) + 1) = _
  have e3 : (k : Int) + 1 = m := by omega
  rw [e3]
theorem ms_bd (y : Int) {m : Int} (h : 1 ≤ m) : 0 ≤ ms y m ∧ ms y m ≤ 31 * (m - 1) := by
  have := msum_bd y (m - 1).toNat
  unfold ms
  omega
theorem ms_lt (y : Int) {m k : Int} (h : 1 ≤ m) (hk : m < k) : ms y m + days y m ≤ ms y k := by
  rw [← ms_succ y h]
  unfold ms
  have := msum_le y (m + 1 - 1).toNat ((k - 1).toNat - (m + 1 - 1).toNat)
  have e : (m + 1 - 1).toNat + ((k - 1).toNat - (m + 1 - 1).toNat) = (k - 1).toNat := by omega
  rw [e] at this
  exact this
/-- the tables of the months ahead -/
theorem ms_tab {y : Int} (h0 : 0 ≤ y) (h1 : y ≤ 9999) : ms y 1 = 0 ∧ ms y 2 = 31 ∧ ms y 3 = ylen y - 306 ∧ ms y 4 = ylen y - 275 ∧ ms y 5 = ylen y - 245 ∧ ms y 6 = ylen y - 214 ∧ ms y 7 = ylen y - 184 ∧ ms y 8 = ylen y - 153 ∧
    ms y 9 = ylen y - 122 ∧ ms y 10 = ylen y - 92 ∧ ms y 11 = ylen y - 61 ∧ ms y 12 = ylen y - 31 ∧ ms y 13 = ylen y := by
  have d1 := days_31 (m := 1) h0 h1 (by omega)
  have d2 : days y 2 = ylen y - 337 := by
    unfold ylen
    cases hl : leapB y
    · rw [days_feb h0 h1 hl]; rfl
    · rw [days_feb_leap h0 h1 hl]; rfl
  have d3 := days_31 (m := 3) h0 h1 (by omega)
  have d4 := days_30 (m := 4) h0 h1 (by omega)
  have d5 := days_31 (m := 5) h0 h1 (by omega)
  have d6 := days_30 (m := 6) h0 h1 (by omega)
  have d7 := days_31 (m := 7) h0 h1 (by omega)
  have d8 := days_31 (m := 8) h0 h1 (by omega)
  have d9 := days_30 (m := 9) h0 h1 (by omega)
  have d10 := days_31 (m := 10) h0 h1 (by omega)
  have d11 := days_30 (m := 11) h0 h1 (by omega)
  have d12 := days_31 (m := 12) h0 h1 (by omega)
  have e1 := ms_one y
  have e2 := ms_succ y (m := 1) (by omega)
  have e3 := ms_succ y (m := 2) (by omega)
  have e4 := ms_succ y (m := 3) (by omega)
  have e5 := ms_succ y (m := 4) (by omega)
  have e6 := ms_succ y (m := 5) (by omega)
  have e7 := ms_succ y (m := 6) (by omega)
  have e8 := ms_succ y (m := 7) (by omega)
  have e9 := ms_succ y (m := 8) (by omega)
  have e10 := ms_succ y (m := 9) (by omega)
  have e11 := ms_succ y (m := 10) (by omega)
  have e12 := ms_succ y (m := 11) (by omega)
  have e13 := ms_succ y (m := 12) (by omega)
  simp only [Int.reduceAdd] at e2 e3 e4 e5 e6 e7 e8 e9 e10 e11 e12 e13
  omega
/-- valid dates have months and years within limits -/
theorem valid_lim {y m d h mi s : Int} (hv : validB y m d h mi s = true) : 0 ≤ y ∧ y ≤ 9999 ∧ 1 ≤ m ∧ m ≤ 12 ∧ 1 ≤ d ∧ d ≤ 31 ∧ d ≤ days y m ∧ 0 ≤ h ∧ h < 24 ∧ 0 ≤ mi ∧ mi < 60 ∧ 0 ≤ s ∧ s < 60 := by
  rw [valid_iff] at hv
  have hb := days_bd y m
  by_cases hz : y < 0 ∨ 9999 < y ∨ m < 1 ∨ 12 < m
  · rw [days_zero hz] at hv; omega
  · omega
/-- the number of the day -/
def dayNo (y m d : Int) : Int := bef y + ms y m + d - 1
/-- the seconds since 1970 -/
def secs (y m d h mi s : Int) : Int := (dayNo y m d - 719528) * 86400 + (h * 3600 + mi * 60 + s)
theorem ms_end {y m : Int} (h0 : 0 ≤ y) (h1 : y ≤ 9999) (hm : 1 ≤ m) (hm' : m ≤ 12) : ms y m + days y m ≤ ylen y := by
  have ht := (ms_tab h0 h1).2.2.2.2.2.2.2.2.2.2.2.2
  have hs := ms_succ y hm
  by_cases he : m = 12
  · subst he; simp only [Int.reduceAdd] at hs; omega
  · have := ms_lt y (m := m) (k := 13) hm (by omega); omega
theorem dayNo_bd {y m d : Int} (h0 : 0 ≤ y) (h1 : y ≤ 9999) (hm : 1 ≤ m) (hm' : m ≤ 12) (hd : 1 ≤ d) (hd' : d ≤ days y m) : bef y ≤ dayNo y m d ∧ dayNo y m d < bef y + ylen y ∧ dayNo y m d < bef (y + 1) ∧ dayNo y m d < 3652425 ∧ 0 ≤ dayNo y m d := by
  have h2 := ms_end h0 h1 hm hm'
  have h3 := ms_bd y hm
  have h4 := bef_succ h0
  have h5 := bef_mono (x := y + 1) (y := 10000) (by omega) (by omega)
  have h6 := bef_nonneg h0
  rw [bef_max] at h5
  unfold dayNo
  omega
set_option maxHeartbeats 4000000 in
/-- the reference's number of the day -/
theorem ref_day {y m d : Int} (h0 : 0 ≤ y) (h1 : y ≤ 9999) (hm : 1 ≤ m) (hm' : m ≤ 12) :
    dayNo y m d - 719528 = (if m - 3 < 0 then 365 * (y - 1 + 400) + (y - 1 + 400) / 4 - (y - 1 + 400) / 100 + (y - 1 + 400) / 400 + (153 * (m - 3 + 12) + 2) / 5 + d - 1 - 146097 - 719468
      else 365 * (y + 400) + (y + 400) / 4 - (y + 400) / 100 + (y + 400) / 400 + (153 * (m - 3) + 2) / 5 + d - 1 - 146097 - 719468) := by
  obtain ⟨t1, t2, t3, t4, t5, t6, t7, t8, t9, t10, t11, t12, _⟩ := ms_tab h0 h1
  have hs := bef_succ h0
  have hp : bef (y + 1) = 365 * (y + 1) + y / 4 - y / 100 + y / 400 + 1 := by
    rw [bef_pos (by omega)]
    have e : y + 1 - 1 = y := by omega
    rw [e]
  have hb : bef y = 365 * y + (y + 399) / 4 - (y + 399) / 100 + (y + 399) / 400 + 1 - 97 := by
    by_cases hy : y = 0
    · subst hy; decide
    · rw [bef_pos hy]; omega
  unfold dayNo
  have hmm : m = 1 ∨ m = 2 ∨ m = 3 ∨ m = 4 ∨ m = 5 ∨ m = 6 ∨ m = 7 ∨ m = 8 ∨ m = 9 ∨ m = 10 ∨ m = 11 ∨ m = 12 := by omega
  rcases hmm with rfl | rfl | rfl | rfl | rfl | rfl | rfl | rfl | rfl | rfl | rfl | rfl
  · rw [if_pos (by omega), t1]; omega
  · rw [if_pos (by omega), t2]; omega
  · rw [if_neg (by omega), t3]; omega
  · rw [if_neg (by omega), t4]; omega
  · rw [if_neg (by omega), t5]; omega
  · rw [if_neg (by omega), t6]; omega
  · rw [if_neg (by omega), t7]; omega
  · rw [if_neg (by omega), t8]; omega
  · rw [if_neg (by omega), t9]; omega
  · rw [if_neg (by omega), t10]; omega
  · rw [if_neg (by omega), t11]; omega
  · rw [if_neg (by omega), t12]; omega

/-- points in time, compared -/
def cmpI (a b : Int) : Int := if a < b then -1 else if b < a then 1 else 0
def orI (a b : Int) : Int := if a ≠ 0 then a else b
def cmpT (y m d h mi s y' m' d' h' mi' s' : Int) : Int := orI (cmpI y y') (orI (cmpI m m') (orI (cmpI d d') (orI (cmpI h h') (orI (cmpI mi mi') (cmpI s s')))))
theorem cmpI_lt {a b : Int} (h : a < b) : cmpI a b = -1 := by unfold cmpI; rw [if_pos h]
theorem cmpI_gt {a b : Int} (h : b < a) : cmpI a b = 1 := by unfold cmpI; rw [if_neg (by omega), if_pos h]
theorem cmpI_self (a : Int) : cmpI a a = 0 := by unfold cmpI; rw [if_neg (by omega), if_neg (by omega)]
theorem cmpI_neg (a b : Int) : cmpI b a = - cmpI a b := by
  unfold cmpI
  repeat' split
  all_goals omega
theorem orI_neg (a b : Int) : orI (-a) (-b) = - orI a b := by
  unfold orI
  repeat' split
  all_goals omega
theorem cmpT_neg (y m d h mi s y' m' d' h' mi' s' : Int) : cmpT y' m' d' h' mi' s' y m d h mi s = - cmpT y m d h mi s y' m' d' h' mi' s' := by
  unfold cmpT
  rw [cmpI_neg y, cmpI_neg m, cmpI_neg d, cmpI_neg h, cmpI_neg mi, cmpI_neg s]
  simp only [orI_neg]
theorem cmpI_cases (a b : Int) : (a < b ∧ cmpI a b = -1) ∨ (a = b ∧ cmpI a b = 0) ∨ (b < a ∧ cmpI a b = 1) := by
  unfold cmpI
  repeat' split
  all_goals omega
theorem orI_cases (a b : Int) : (a ≠ 0 ∧ orI a b = a) ∨ (a = 0 ∧ orI a b = b) := by unfold orI; split <;> simp_all
/-- one date ahead of another -/
theorem day_lt {y m d y' m' d' : Int} (h0 : 0 ≤ y) (h1 : y ≤ 9999) (hm : 1 ≤ m) (hm' : m ≤ 12) (hd' : d ≤ days y m) (k0 : 0 ≤ y') (kk : y' ≤ 9999) (k1 : 1 ≤ m') (k2 : 1 ≤ d')
    (hl : y < y' ∨ (y = y' ∧ (m < m' ∨ (m = m' ∧ d < d')))) : dayNo y m d < dayNo y' m' d' := by
  unfold dayNo
  rcases hl with hl | ⟨rfl, hl | ⟨rfl, hl⟩⟩
  · have e1 := bef_lt h0 hl
    have e2 := ms_end h0 h1 hm hm'
    have e3 := ms_bd y' k1
    omega
  · have e1 := ms_lt y hm hl
    omega
  · omega
theorem secs_cmp {y m d h mi s y' m' d' h' mi' s' : Int} (hv : validB y m d h mi s = true) (hv' : validB y' m' d' h' mi' s' = true) :
    cmpT y m d h mi s y' m' d' h' mi' s' = cmpI (secs y m d h mi s) (secs y' m' d' h' mi' s') := by
  obtain ⟨a1, a2, a3, a4, a5, a6, a7, a8, a9, a10, a11, a12, a13⟩ := valid_lim hv
  obtain ⟨b1, b2, b3, b4, b5, b6, b7, b8, b9, b10, b11, b12, b13⟩ := valid_lim hv'
  unfold cmpT
  have low (hl : y < y' ∨ (y = y' ∧ (m < m' ∨ (m = m' ∧ d < d')))) : cmpI (secs y m d h mi s) (secs y' m' d' h' mi' s') = -1 := by
    have := day_lt a1 a2 a3 a4 a7 b1 b2 b3 b5 hl
    apply cmpI_lt
    unfold secs
    omega
  have high (hl : y' < y ∨ (y' = y ∧ (m' < m ∨ (m' = m ∧ d' < d)))) : cmpI (secs y m d h mi s) (secs y' m' d' h' mi' s') = 1 := by
    have := day_lt b1 b2 b3 b4 b7 a1 a2 a3 a5 hl
    apply cmpI_gt
    unfold secs
    omega
  rcases cmpI_cases y y' with ⟨c, e⟩ | ⟨c, e⟩ | ⟨c, e⟩
  · rw [e, low (.inl c)]; rfl
  · subst c
    rw [e]
    rcases cmpI_cases m m' with ⟨c, e⟩ | ⟨c, e⟩ | ⟨c, e⟩
    · rw [e, low (.inr ⟨rfl, .inl c⟩)]; rfl
    · subst c
      rw [e]
      rcases cmpI_cases d d' with ⟨c, e⟩ | ⟨c, e⟩ | ⟨c, e⟩
      · rw [e, low (.inr ⟨rfl, .inr ⟨rfl, c⟩⟩)]; rfl
      · subst c
        rw [e]
        rcases cmpI_cases h h' with ⟨c, e⟩ | ⟨c, e⟩ | ⟨c, e⟩
        · rw [e, cmpI_lt (show secs y m d h mi s < secs y m d h' mi' s' from by unfold secs; omega)]; rfl
        · subst c
          rw [e]
          rcases cmpI_cases mi mi' with ⟨c, e⟩ | ⟨c, e⟩ | ⟨c, e⟩
          · rw [e, cmpI_lt (show secs y m d h mi s < secs y m d h mi' s' from by unfold secs; omega)]; rfl
          · subst c
            rw [e]
            rcases cmpI_cases s s' with ⟨c, e⟩ | ⟨c, e⟩ | ⟨c, e⟩
            · rw [e, cmpI_lt (show secs y m d h mi s < secs y m d h mi s' from by unfold secs; omega)]; rfl
            · subst c
              rw [e, cmpI_self]; rfl
            · rw [e, cmpI_gt (show secs y m d h mi s' < secs y m d h mi s from by unfold secs; omega)]; rfl
          · rw [e, cmpI_gt (show secs y m d h mi' s' < secs y m d h mi s from by unfold secs; omega)]; rfl
        · rw [e, cmpI_gt (show secs y m d h' mi' s' < secs y m d h mi s from by unfold secs; omega)]; rfl
      · rw [e, high (.inr ⟨rfl, .inr ⟨rfl, c⟩⟩)]; rfl
    · rw [e, high (.inr ⟨rfl, .inl c⟩)]; rfl
  · rw [e, high (.inl c)]; rfl
theorem cmpT_zero {y m d h mi s y' m' d' h' mi' s' : Int} (hc : cmpT y m d h mi s y' m' d' h' mi' s' = 0) : y = y' ∧ m = m' ∧ d = d' ∧ h = h' ∧ mi = mi' ∧ s = s' := by
  unfold cmpT at hc
  rcases cmpI_cases y y' with ⟨c, e⟩ | ⟨c, e⟩ | ⟨c, e⟩ <;> rcases cmpI_cases m m' with ⟨c1, e1⟩ | ⟨c1, e1⟩ | ⟨c1, e1⟩ <;> rcases cmpI_cases d d' with ⟨c2, e2⟩ | ⟨c2, e2⟩ | ⟨c2, e2⟩ <;>
    rcases cmpI_cases h h' with ⟨c3, e3⟩ | ⟨c3, e3⟩ | ⟨c3, e3⟩ <;> rcases cmpI_cases mi mi' with ⟨c4, e4⟩ | ⟨c4, e4⟩ | ⟨c4, e4⟩ <;> rcases cmpI_cases s s' with ⟨c5, e5⟩ | ⟨c5, e5⟩ | ⟨c5, e5⟩ <;>
    rw [e, e1, e2, e3, e4, e5] at hc <;> first | exact ⟨c, c1, c2, c3, c4, c5⟩ | exact absurd hc (by decide)
/-- equal seconds, equal points in time -/
theorem secs_inj {y m d h mi s y' m' d' h' mi' s' : Int} (hv : validB y m d h mi s = true) (hv' : validB y' m' d' h' mi' s' = true) (he : secs y m d h mi s = secs y' m' d' h' mi' s') :
    y = y' ∧ m = m' ∧ d = d' ∧ h = h' ∧ mi = mi' ∧ s = s' := by
  apply cmpT_zero
  rw [secs_cmp hv hv', he, cmpI_self]
theorem secs_bd {y m d h mi s : Int} (hv : validB y m d h mi s = true) : -62167219200 ≤ secs y m d h mi s ∧ secs y m d h mi s < 253402300800 := by
  obtain ⟨a1, a2, a3, a4, a5, a6, a7, a8, a9, a10, a11, a12, a13⟩ := valid_lim hv
  have := dayNo_bd a1 a2 a3 a4 a5 a7
  unfold secs
  omega
end Go.Proofs.Ytkkgcfllfhkoaaa.Clk
