/- Joined texts: PlClkE, ClkN, ClkO. -/
import Derived.Deep.CutRange
import Derived.Test.YtnpmgofkfdpbjaaKC
import Derived.Test.YtnpmgofkfdpbjaaKD
import Derived.Test.YtnpmgofkfdpbjaaKE
set_option linter.unusedSimpArgs false
set_option linter.unusedVariables false
/- Plain mathematics of the calendar: days before a year, seconds since 1970, their order. No program in sight. -/
namespace Go.Proofs.Ytnpmgofkfdpbjaa.Clk

/-- the number of days ahead of a year -/
def bef (y : Int) : Int := if y = 0 then 0 else 365 * y + (y - 1) / 4 - (y - 1) / 100 + (y - 1) / 400 + 1

theorem bef_zero : bef 0 = 0 := rfl
theorem bef_pos {y : Int} (h : y ≠ 0) : bef y = 365 * y + (y - 1) / 4 - (y - 1) / 100 + (y - 1) / 400 + 1 := by unfold bef; rw [if_neg h]
/-- the length of a year -/
def ylen (y : Int) : Int := if leapB y = true then 366 else 365
theorem bef_succ {y : Int} (h : 0 ≤ y) : bef (y + 1) = bef y + ylen y := by
  rw [bef_pos (by omega)]
  unfold ylen
  by_cases h0 : y = 0
  · subst h0; decide
  · rw [bef_pos h0]
    split
    · rename_i hl; rw [leap_iff] at hl; omega
    · rename_i hl; rw [leap_iff] at hl; omega
theorem ylen_bd (y : Int) : 365 ≤ ylen y ∧ ylen y ≤ 366 := by unfold ylen; split <;> omega
theorem bef_le_366 {y : Int} (h : 0 ≤ y) : bef y ≤ 366 * y := by
  unfold bef; split
  · omega
  · omega
theorem bef_nonneg {y : Int} (h : 0 ≤ y) : 365 * y ≤ bef y := by
  unfold bef; split
  · omega
  · omega
theorem bef_mono_nat (x : Int) (h : 0 ≤ x) : ∀ k : Nat, bef x + 365 * k ≤ bef (x + k)
  | 0 => by simp
  | k + 1 => by
    have ih := bef_mono_nat x h k
    have e : x + ((k + 1 : Nat) : Int) = (x + k) + 1 := by omega
    have hs := bef_succ (y := x + k) (by omega)
    have hy := ylen_bd (x + k)
    rw [e, hs]
    omega
theorem bef_mono {x y : Int} (h : 0 ≤ x) (hxy : x ≤ y) : bef x + 365 * (y - x) ≤ bef y := by
  obtain ⟨k, hk⟩ := Int.eq_ofNat_of_zero_le (show 0 ≤ y - x by omega)
  have := bef_mono_nat x h k
  have e : y = x + k := by omega
  subst e
  omega
theorem bef_lt {x y : Int} (h : 0 ≤ x) (hxy : x < y) : bef x + ylen x ≤ bef y := by
  have h1 := bef_mono (x := x + 1) (y := y) (by omega) (by omega)
  have h2 := bef_succ h
  omega
theorem bef_max : bef 10000 = 3652425 := by decide

/-- the days of the first k months -/
def msum (y : Int) : Nat → Int
  | 0 => 0
  | k + 1 => msum y k + days y ((k : Int) + 1)
theorem msum_le (y : Int) (k : Nat) : ∀ j, msum y k ≤ msum y (k + j)
  | 0 => Int.le_refl _
  | j + 1 => by
    have ih := msum_le y k j
    have hb := days_bd y (((k + j : Nat) : Int) + 1)
    show msum y k ≤ msum y (k + j) + days y (((k + j : Nat) : Int) + 1)
    omega
theorem msum_bd (y : Int) : ∀ k, 0 ≤ msum y k ∧ msum y k ≤ 31 * k
  | 0 => ⟨Int.le_refl _, Int.le_refl _⟩
  | k + 1 => by
    have ih := msum_bd y k
    have hb := days_bd y ((k : Int) + 1)
    have e : msum y (k + 1) = msum y k + days y ((k : Int) + 1) := rfl
    rw [e]
    omega
/-- the same, at an Int -/
def ms (y m : Int) : Int := msum y (m - 1).toNat
theorem ms_one (y : Int) : ms y 1 = 0 := rfl
theorem ms_succ (y : Int) {m : Int} (h : 1 ≤ m) : ms y (m + 1) = ms y m + days y m := by
  unfold ms
  obtain ⟨k, hk⟩ := Int.eq_ofNat_of_zero_le (show 0 ≤ m - 1 by omega)
  have e1 : (m + 1 - 1).toNat = k + 1 := by omega
  have e2 : (m - 1).toNat = k := by omega
  rw [e1, e2]
  show msum y k + days y ((k : Int) + 1) = _
  have e3 : (k : Int) + 1 = m := by omega
  rw [e3]
theorem ms_bd (y : Int) {m : Int} (h : 1 ≤ m) : 0 ≤ ms y m ∧ ms y m ≤ 31 * (m - 1) := by
  have := msum_bd y (m - 1).toNat
  unfold ms
  omega
theorem ms_lt (y : Int) {m k : Int} (h : 1 ≤ m) (hk : m < k) : ms y m + days y m ≤ ms y k := by
  rw [← ms_succ y h]
  unfold ms
  have := msum_le y (m + 1 - 1).toNat ((k - 1).toNat - (m + 1 - 1).toNat)
  have e : (m + 1 - 1).toNat + ((k - 1).toNat - (m + 1 - 1).toNat) = (k - 1).toNat := by omega
  rw [e] at this
  exact this
/-- the tables of the months ahead -/
theorem ms_tab {y : Int} (h0 : 0 ≤ y) (h1 : y ≤ 9999) : ms y 1 = 0 ∧ ms y 2 = 31 ∧ ms y 3 = ylen y - 306 ∧ ms y 4 = ylen y - 275 ∧ ms y 5 = ylen y - 245 ∧ ms y 6 = ylen y - 214 ∧ ms y 7 = ylen y - 184 ∧ ms y 8 = ylen y - 153 ∧
    ms y 9 = ylen y - 122 ∧ ms y 10 = ylen y - 92 ∧ ms y 11 = ylen y - 61 ∧ ms y 12 = ylen y - 31 ∧ ms y 13 = ylen y := by
  have d1 := days_31 (m := 1) h0 h1 (by omega)
  have d2 : days y 2 = ylen y - 337 := by
    unfold ylen
    cases hl : leapB y
    · rw [days_feb h0 h1 hl]; rfl
    · rw [days_feb_leap h0 h1 hl]; rfl
  have d3 := days_31 (m := 3) h0 h1 (by omega)
  have d4 := days_30 (m := 4) h0 h1 (by omega)
  have d5 := days_31 (m := 5) h0 h1 (by omega)
  have d6 := days_30 (m := 6) h0 h1 (by omega)
  have d7 := days_31 (m := 7) h0 h1 (by omega)
  have d8 := days_31 (m := 8) h0 h1 (by omega)
  have d9 := days_30 (m := 9) h0 h1 (by omega)
  have d10 := days_31 (m := 10) h0 h1 (by omega)
  have d11 := days_30 (m := 11) h0 h1 (by omega)
  have d12 := days_31 (m := 12) h0 h1 (by omega)
  have e1 := ms_one y
  have e2 := ms_succ y (m := 1) (by omega)
  have e3 := ms_succ y (m := 2) (by omega)
  have e4 := ms_succ y (m := 3) (by omega)
  have e5 := ms_succ y (m := 4) (by omega)
  have e6 := ms_succ y (m := 5) (by omega)
  have e7 := ms_succ y (m := 6) (by omega)
  have e8 := ms_succ y (m := 7) (by omega)
  have e9 := ms_succ y (m := 8) (by omega)
  have e10 := ms_succ y (m := 9) (by omega)
  have e11 := ms_succ y (m := 10) (by omega)
  have e12 := ms_succ y (m := 11) (by omega)
  have e13 := ms_succ y (m := 12) (by omega)
  simp only [Int.reduceAdd] at e2 e3 e4 e5 e6 e7 e8 e9 e10 e11 e12 e13
  omega
/-- valid dates have months and years within limits -/
theorem valid_lim {y m d h mi s : Int} (hv : validB y m d h mi s = true) : 0 ≤ y ∧ y ≤ 9999 ∧ 1 ≤ m ∧ m ≤ 12 ∧ 1 ≤ d ∧ d ≤ 31 ∧ d ≤ days y m ∧ 0 ≤ h ∧ h < 24 ∧ 0 ≤ mi ∧ mi < 60 ∧ 0 ≤ s ∧ s < 60 := by
  rw [valid_iff] at hv
  have hb := days_bd y m
  by_cases hz : y < 0 ∨ 9999 < y ∨ m < 1 ∨ 12 < m
  · rw [days_zero hz] at hv; omega
  · omega
/-- the number of the day -/
def dayNo (y m d : Int) : Int := bef y + ms y m + d - 1
/-- the seconds since 1970 -/
def secs (y m d h mi s : Int) : Int := (dayNo y m d - 719528) * 86400 + (h * 3600 + mi * 60 + s)
theorem ms_end {y m : Int} (h0 : 0 ≤ y) (h1 : y ≤ 9999) (hm : 1 ≤ m) (hm' : m ≤ 12) : ms y m + days y m ≤ ylen y := by
  have ht := (ms_tab h0 h1).2.2.2.2.2.2.2.2.2.2.2.2
  have hs := ms_succ y hm
  by_cases he : m = 12
  · subst he; simp only [Int.reduceAdd] at hs; omega
  · have := ms_lt y (m := m) (k := 13) hm (by omega); omega
theorem dayNo_bd {y m d : Int} (h0 : 0 ≤ y) (h1 : y ≤ 9999) (hm : 1 ≤ m) (hm' : m ≤ 12) (hd : 1 ≤ d) (hd' : d ≤ days y m) : bef y ≤ dayNo y m d ∧ dayNo y m d < bef y + ylen y ∧ dayNo y m d < bef (y + 1) ∧ dayNo y m d < 3652425 ∧ 0 ≤ dayNo y m d := by
  have h2 := ms_end h0 h1 hm hm'
  have h3 := ms_bd y hm
  have h4 := bef_succ h0
  have h5 := bef_mono (x := y + 1) (y := 10000) (by omega) (by omega)
  have h6 := bef_nonneg h0
  rw [bef_max] at h5
  unfold dayNo
  omega
set_option maxHeartbeats 4000000 in
/-- the reference's number of the day -/
theorem ref_day {y m d : Int} (h0 : 0 ≤ y) (h1 : y ≤ 9999) (hm : 1 ≤ m) (hm' : m ≤ 12) :
    dayNo y m d - 719528 = (if m - 3 < 0 then 365 * (y - 1 + 400) + (y - 1 + 400) / 4 - (y - 1 + 400) / 100 + (y - 1 + 400) / 400 + (153 * (m - 3 + 12) + 2) / 5 + d - 1 - 146097 - 719468
      else 365 * (y + 400) + (y + 400) / 4 - (y + 400) / 100 + (y + 400) / 400 + (153 * (m - 3) + 2) / 5 + d - 1 - 146097 - 719468) := by
  obtain ⟨t1, t2, t3, t4, t5, t6, t7, t8, t9, t10, t11, t12, _⟩ := ms_tab h0 h1
  have hs := bef_succ h0
  have hp : bef (y + 1) = 365 * (y + 1) + y / 4 - y / 100 + y / 400 + 1 := by
    rw [bef_pos (by omega)]
    have e : y + 1 - 1 = y := by omega
    rw [e]
  have hb : bef y = 365 * y + (y + 399) / 4 - (y + 399) / 100 + (y + 399) / 400 + 1 - 97 := by
    by_cases hy : y = 0
    · subst hy; decide
    · rw [bef_pos hy]; omega
  unfold dayNo
  have hmm : m = 1 ∨ m = 2 ∨ m = 3 ∨ m = 4 ∨ m = 5 ∨ m = 6 ∨ m = 7 ∨ m = 8 ∨ m = 9 ∨ m = 10 ∨ m = 11 ∨ m = 12 := by omega
  rcases hmm with rfl | rfl | rfl | rfl | rfl | rfl | rfl | rfl | rfl | rfl | rfl | rfl
  · rw [if_pos (by omega), t1]; omega
  · rw [if_pos (by omega), t2]; omega
  · rw [if_neg (by omega), t3]; omega
  · rw [if_neg (by omega), t4]; omega
  · rw [if_neg (by omega), t5]; omega
  · rw [if_neg (by omega), t6]; omega
  · rw [if_neg (by omega), t7]; omega
  · rw [if_neg (by omega), t8]; omega
  · rw [if_neg (by omega), t9]; omega
  · rw [if_neg (by omega), t10]; omega
  · rw [if_neg (by omega), t11]; omega
  · rw [if_neg (by omega), t12]; omega

/-- points in time, compared -/
def cmpI (a b : Int) : Int := if a < b then -1 else if b < a then 1 else 0
def orI (a b : Int) : Int := if a ≠ 0 then a else b
def cmpT (y m d h mi s y' m' d' h' mi' s' : Int) : Int := orI (cmpI y y') (orI (cmpI m m') (orI (cmpI d d') (orI (cmpI h h') (orI (cmpI mi mi') (cmpI s s')))))
theorem cmpI_lt {a b : Int} (h : a < b) : cmpI a b = -1 := by unfold cmpI; rw [if_pos h]
theorem cmpI_gt {a b : Int} (h : b < a) : cmpI a b = 1 := by unfold cmpI; rw [if_neg (by omega), if_pos h]
theorem cmpI_self (a : Int) : cmpI a a = 0 := by unfold cmpI; rw [if_neg (by omega), if_neg (by omega)]
theorem cmpI_neg (a b : Int) : cmpI b a = - cmpI a b := by
  unfold cmpI
  repeat' split
  all_goals omega
theorem orI_neg (a b : Int) : orI (-a) (-b) = - orI a b := by
  unfold orI
  repeat' split
  all_goals omega
theorem cmpT_neg (y m d h mi s y' m' d' h' mi' s' : Int) : cmpT y' m' d' h' mi' s' y m d h mi s = - cmpT y m d h mi s y' m' d' h' mi' s' := by
  unfold cmpT
  rw [cmpI_neg y, cmpI_neg m, cmpI_neg d, cmpI_neg h, cmpI_neg mi, cmpI_neg s]
  simp only [orI_neg]
theorem cmpI_cases (a b : Int) : (a < b ∧ cmpI a b = -1) ∨ (a = b ∧ cmpI a b = 0) ∨ (b < a ∧ cmpI a b = 1) := by
  unfold cmpI
  repeat' split
  all_goals omega
theorem orI_cases (a b : Int) : (a ≠ 0 ∧ orI a b = a) ∨ (a = 0 ∧ orI a b = b) := by unfold orI; split <;> simp_all
/-- one date ahead of another -/
theorem day_lt {y m d y' m' d' : Int} (h0 : 0 ≤ y) (h1 : y ≤ 9999) (hm : 1 ≤ m) (hm' : m ≤ 12) (hd' : d ≤ days y m) (k0 : 0 ≤ y') (kk : y' ≤ 9999) (k1 : 1 ≤ m') (k2 : 1 ≤ d')
    (hl : y < y' ∨ (y = y' ∧ (m < m' ∨ (m = m' ∧ d < d')))) : dayNo y m d < dayNo y' m' d' := by
  unfold dayNo
  rcases hl with hl | ⟨rfl, hl | ⟨rfl, hl⟩⟩
  · have e1 := bef_lt h0 hl
    have e2 := ms_end h0 h1 hm hm'
    have e3 := ms_bd y' k1
    omega
  · have e1 := ms_lt y hm hl
    omega
  · omega
theorem secs_cmp {y m d h mi s y' m' d' h' mi' s' : Int} (hv : validB y m d h mi s = true) (hv' : validB y' m' d' h' mi' s' = true) :
    cmpT y m d h mi s y' m' d' h' mi' s' = cmpI (secs y m d h mi s) (secs y' m' d' h' mi' s') := by
  obtain ⟨a1, a2, a3, a4, a5, a6, a7, a8, a9, a10, a11, a12, a13⟩ := valid_lim hv
  obtain ⟨b1, b2, b3, b4, b5, b6, b7, b8, b9, b10, b11, b12, b13⟩ := valid_lim hv'
  unfold cmpT
  have low (hl : y < y' ∨ (y = y' ∧ (m < m' ∨ (m = m' ∧ d < d')))) : cmpI (secs y m d h mi s) (secs y' m' d' h' mi' s') = -1 := by
    have := day_lt a1 a2 a3 a4 a7 b1 b2 b3 b5 hl
    apply cmpI_lt
    unfold secs
    omega
  have high (hl : y' < y ∨ (y' = y ∧ (m' < m ∨ (m' = m ∧ d' < d)))) : cmpI (secs y m d h mi s) (secs y' m' d' h' mi' s') = 1 := by
    have := day_lt b1 b2 b3 b4 b7 a1 a2 a3 a5 hl
    apply cmpI_gt
    unfold secs
    omega
  rcases cmpI_cases y y' with ⟨c, e⟩ | ⟨c, e⟩ | ⟨c, e⟩
  · rw [e, low (.inl c)]; rfl
  · subst c
    rw [e]
    rcases cmpI_cases m m' with ⟨c, e⟩ | ⟨c, e⟩ | ⟨c, e⟩
    · rw [e, low (.inr ⟨rfl, .inl c⟩)]; rfl
    · subst c
      rw [e]
      rcases cmpI_cases d d' with ⟨c, e⟩ | ⟨c, e⟩ | ⟨c, e⟩
      · rw [e, low (.inr ⟨rfl, .inr ⟨rfl, c⟩⟩)]; rfl
      · subst c
        rw [e]
        rcases cmpI_cases h h' with ⟨c, e⟩ | ⟨c, e⟩ | ⟨c, e⟩
        · rw [e, cmpI_lt (show secs y m d h mi s < secs y m d h' mi' s' from by unfold secs; omega)]; rfl
        · subst c
          rw [e]
          rcases cmpI_cases mi mi' with ⟨c, e⟩ | ⟨c, e⟩ | ⟨c, e⟩
          · rw [e, cmpI_lt (show secs y m d h mi s < secs y m d h mi' s' from by unfold secs; omega)]; rfl
          · subst c
            rw [e]
            rcases cmpI_cases s s' with ⟨c, e⟩ | ⟨c, e⟩ | ⟨c, e⟩
            · rw [e, cmpI_lt (show secs y m d h mi s < secs y m d h mi s' from by unfold secs; omega)]; rfl
            · subst c
              rw [e, cmpI_self]; rfl
            · rw [e, cmpI_gt (show secs y m d h mi s' < secs y m d h mi s from by unfold secs; omega)]; rfl
          · rw [e, cmpI_gt (show secs y m d h mi' s' < secs y m d h mi s from by unfold secs; omega)]; rfl
        · rw [e, cmpI_gt (show secs y m d h' mi' s' < secs y m d h mi s from by unfold secs; omega)]; rfl
      · rw [e, high (.inr ⟨rfl, .inr ⟨rfl, c⟩⟩)]; rfl
    · rw [e, high (.inr ⟨rfl, .inl c⟩)]; rfl
  · rw [e, high (.inl c)]; rfl
theorem cmpT_zero {y m d h mi s y' m' d' h' mi' s' : Int} (hc : cmpT y m d h mi s y' m' d' h' mi' s' = 0) : y = y' ∧ m = m' ∧ d = d' ∧ h = h' ∧ mi = mi' ∧ s = s' := by
  unfold cmpT at hc
  rcases cmpI_cases y y' with ⟨c, e⟩ | ⟨c, e⟩ | ⟨c, e⟩ <;> rcases cmpI_cases m m' with ⟨c1, e1⟩ | ⟨c1, e1⟩ | ⟨c1, e1⟩ <;> rcases cmpI_cases d d' with ⟨c2, e2⟩ | ⟨c2, e2⟩ | ⟨c2, e2⟩ <;>
    rcases cmpI_cases h h' with ⟨c3, e3⟩ | ⟨c3, e3⟩ | ⟨c3, e3⟩ <;> rcases cmpI_cases mi mi' with ⟨c4, e4⟩ | ⟨c4, e4⟩ | ⟨c4, e4⟩ <;> rcases cmpI_cases s s' with ⟨c5, e5⟩ | ⟨c5, e5⟩ | ⟨c5, e5⟩ <;>
    rw [e, e1, e2, e3, e4, e5] at hc <;> first | exact ⟨c, c1, c2, c3, c4, c5⟩ | exact absurd hc (by decide)
/-- equal seconds, equal points in time -/
theorem secs_inj {y m d h mi s y' m' d' h' mi' s' : Int} (hv : validB y m d h mi s = true) (hv' : validB y' m' d' h' mi' s' = true) (he : secs y m d h mi s = secs y' m' d' h' mi' s') :
    y = y' ∧ m = m' ∧ d = d' ∧ h = h' ∧ mi = mi' ∧ s = s' := by
  apply cmpT_zero
  rw [secs_cmp hv hv', he, cmpI_self]
theorem secs_bd {y m d h mi s : Int} (hv : validB y m d h mi s = true) : -62167219200 ≤ secs y m d h mi s ∧ secs y m d h mi s < 253402300800 := by
  obtain ⟨a1, a2, a3, a4, a5, a6, a7, a8, a9, a10, a11, a12, a13⟩ := valid_lim hv
  have := dayNo_bd a1 a2 a3 a4 a5 a7
  unfold secs
  omega
end Go.Proofs.Ytnpmgofkfdpbjaa.Clk
/- Walks: days before a year, the clock's and the reference's seconds. -/
namespace Go.Proofs.Ytnpmgofkfdpbjaa.Clk
open Go.RowKit Kit

set_option maxHeartbeats 400000 in
theorem before_any (y : Int) (w : World) (h0 : 0 ≤ y) (h1 : y ≤ 20000) :
    Calls Try.prog 151 #[.int .i64 y] w fun e w' => e = .returned (.int .i64 (bef y)) ∧ w = w' := by
  by_cases hy : y = 0
  · subst hy
    go_enter Try.func151, Try.ntmps151
    go_wp2
    go_ret
    exact ⟨rfl, rfl⟩
  · have H := Lib.hid (bef_pos hy)
    have w1 : IntKind.i64.wrap (365 * y) = 365 * y := IntWalk.i64_in _ (by omega)
    have w2 : IntKind.i64.wrap (y - 1) = y - 1 := IntWalk.i64_in _ (by omega)
    have d1 : (y - 1).tdiv 4 = (y - 1) / 4 := Int.tdiv_eq_ediv_of_nonneg (by omega)
    have d2 : (y - 1).tdiv 100 = (y - 1) / 100 := Int.tdiv_eq_ediv_of_nonneg (by omega)
    have d3 : (y - 1).tdiv 400 = (y - 1) / 400 := Int.tdiv_eq_ediv_of_nonneg (by omega)
    go_enter Try.func151, Try.ntmps151
    go_wp2
    go_ret
    exact ⟨ret_int H.out.symm, rfl⟩

/-- the cells of a boxed point in time, behind later calls -/
theorem box6 {w w1 : World} {x0 x1 x2 x3 x4 x5 : Value} {t : TypeId} (hb : Below (w.alloc (.cells #[x0, x1, x2, x3, x4, x5] t)).heap.size (w.alloc (.cells #[x0, x1, x2, x3, x4, x5] t)) w1) :
    (w1.cell? ⟨w.heap.size, 0, none⟩ = some x0 ∧ w1.cell? ⟨w.heap.size, 1, none⟩ = some x1 ∧ w1.cell? ⟨w.heap.size, 2, none⟩ = some x2 ∧ w1.cell? ⟨w.heap.size, 3, none⟩ = some x3 ∧ w1.cell? ⟨w.heap.size, 4, none⟩ = some x4 ∧ w1.cell? ⟨w.heap.size, 5, none⟩ = some x5) ∧
      Below w.heap.size w w1 := ⟨cells6 (blk1 hb), bel1 hb⟩

set_option maxHeartbeats 1000000 in
theorem secs_bad {y m d h mi s : Int} (w : World) (hv : validB y m d h mi s = false) :
    Calls Try.prog 117 #[time y m d h mi s] w fun e w' => e = .returned (.tuple #[.int .i64 0, .int .i64 8]) ∧ Below w.heap.size w w' := by
  have HV := Lib.hid hv
  clear hv
  go_enter Try.func117, Try.ntmps117
  go_wp2_with (first | (go_at_call 86; refine (valid_any _ _ _ _ _ _ _).mono ?_; rw [HV.out]; rintro e w1 ⟨rfl, hb1⟩))
  go_ret2
  exact ⟨rfl, bel1 hb1⟩

set_option maxHeartbeats 2000000 in
theorem secs_ok {y m d h mi s : Int} (w : World) (hv : validB y m d h mi s = true) :
    Calls Try.prog 117 #[time y m d h mi s] w fun e w' => e = .returned (.tuple #[.int .i64 (secs y m d h mi s), .int .i64 0]) ∧ Below w.heap.size w w' := by
  obtain ⟨a1, a2, a3, a4, a5, a6, a7, a8, a9, a10, a11, a12, a13⟩ := valid_lim hv
  have HV := Lib.hid hv
  have HB := Lib.hid (ms_bd y (m := m) a3)
  have hbn := bef_nonneg a1
  have hbx := bef_le_366 a1
  have HS := Lib.hid (show secs y m d h mi s = (bef y + ms y m + d - 1 - 719528) * 86400 + (h * 3600 + mi * 60 + s) from rfl)
  have HM := Lib.hid (fun k (h1 : 1 ≤ k) => ms_bd y (m := k) h1)
  have HN := Lib.hid (fun k (h1 : 1 ≤ k) => ms_succ y (m := k) h1)
  have HY := Lib.hid (fun k => days_bd y k)
  clear hv
  go_enter Try.func117, Try.ntmps117
  go_upto_region 3 with (first | (go_at_call 86; refine (valid_any _ _ _ _ _ _ _).mono ?_; rw [HV.out]; rintro e w1 ⟨rfl, hb1⟩))
  obtain ⟨⟨q0, q1, q2, q3, q4, q5⟩, hb2⟩ := box6 hb1
  clear hb1
  go_quiet ((go_at_call 151; exact Kit.quiet_same (before_any _ _ (by omega) (by omega))))
  go_wp2
  go_loopw [4, 5] (fun a i wr => ∃ (k : Int) (n : Nat), 1 ≤ k ∧ k ≤ m ∧ i = .int .i64 k ∧ a = .int .i64 (bef y + d - 1 - 719528 + ms y k) ∧ wr = w1.drewN n) (fun _ i _ => 20 - (intOf i).toNat)
  case atStart => exact ⟨1, _, by omega, by omega, rfl, by rw [ms_one]; simp, rfl⟩
  case round =>
    obtain ⟨k, n, hk1, hk2, rfl, rfl, rfl⟩ := hrel
    have hm1 := HM.out k hk1
    have hdb := HY.out k
    have hst := Lib.hid (HN.out k hk1)
    generalize hv : ms y k = v at *
    have HVV := Lib.hid hv
    clear hv
    generalize hbb : bef y = b at *
    by_cases hlt : k < m
    · generalize hz : days y k = z at *
      have HZ := Lib.hid hz
      clear hz
      go_wp2_with (go_at_call 138; refine (days_any _ _ _).mono ?_; rw [HZ.out]; rintro e w' ⟨rfl, rfl⟩)
      go_roundw
      case rel => exact ⟨k + 1, _, by omega, by omega, rfl, by rw [hst.out]; simp only [Int.add_assoc], rfl⟩
      case measure => simp [intOf]; omega
    · obtain rfl : k = m := by omega
      go_wp2
      go_ret2
      refine ⟨ret2 (vint ?_) rfl, (by repeat' (first | (with_reducible exact Below.refl _ _) | (with_reducible assumption) | (with_reducible refine below_drewN ?_ _) | (with_reducible refine Below.drew ?_) | (with_reducible refine Below.alloc ?_ ?_ _) | (with_reducible refine Below.setCell ?_ ?_ _) | go_size))⟩
      rw [HS.out]
      have := HVV.out
      omega

set_option maxHeartbeats 1000000 in
theorem refsecs_bad {y m d h mi s : Int} (w : World) (hv : validB y m d h mi s = false) :
    Calls Try.prog 118 #[time y m d h mi s] w fun e w' => e = .returned (.tuple #[.int .i64 0, .int .i64 8]) ∧ Below w.heap.size w w' := by
  have HV := Lib.hid hv
  clear hv
  go_enter Try.func118, Try.ntmps118
  go_wp2_with (first | (go_at_call 87; refine (refvalid_any _ _ _ _ _ _ _).mono ?_; rw [HV.out]; rintro e w1 ⟨rfl, hb1⟩))
  go_ret2
  exact ⟨rfl, bel1 hb1⟩

set_option maxHeartbeats 2000000 in
theorem refsecs_ok {y m d h mi s : Int} (w : World) (hv : validB y m d h mi s = true) :
    Calls Try.prog 118 #[time y m d h mi s] w fun e w' => e = .returned (.tuple #[.int .i64 (secs y m d h mi s), .int .i64 0]) ∧ Below w.heap.size w w' := by
  obtain ⟨a1, a2, a3, a4, a5, a6, a7, a8, a9, a10, a11, a12, a13⟩ := valid_lim hv
  have HV := Lib.hid hv
  have hd := ref_day (d := d) a1 a2 a3 a4
  clear hv
  by_cases hm : m - 3 < 0
  · rw [if_pos hm] at hd
    have HS := Lib.hid (show secs y m d h mi s = (365 * (y - 1 + 400) + (y - 1 + 400) / 4 - (y - 1 + 400) / 100 + (y - 1 + 400) / 400 + (153 * (m - 3 + 12) + 2) / 5 + d - 1 - 146097 - 719468) * 86400 + (h * 3600 + mi * 60 + s) from by rw [← hd]; rfl)
    clear hd
    have d1 : (y - 1 + 400).tdiv 4 = (y - 1 + 400) / 4 := Int.tdiv_eq_ediv_of_nonneg (by omega)
    have d2 : (y - 1 + 400).tdiv 100 = (y - 1 + 400) / 100 := Int.tdiv_eq_ediv_of_nonneg (by omega)
    have d3 : (y - 1 + 400).tdiv 400 = (y - 1 + 400) / 400 := Int.tdiv_eq_ediv_of_nonneg (by omega)
    have d4 : (153 * (m - 3 + 12) + 2).tdiv 5 = (153 * (m - 3 + 12) + 2) / 5 := Int.tdiv_eq_ediv_of_nonneg (by omega)
    go_enter Try.func118, Try.ntmps118
    go_upto_region 3 with (first | (go_at_call 87; refine (refvalid_any _ _ _ _ _ _ _).mono ?_; rw [HV.out]; rintro e w1 ⟨rfl, hb1⟩))
    obtain ⟨⟨q0, q1, q2, q3, q4, q5⟩, hb2⟩ := box6 hb1
    clear hb1
    go_wp2
    go_ret2
    exact ⟨ret2 (vint HS.out.symm) rfl, (by repeat' (first | (with_reducible exact Below.refl _ _) | (with_reducible assumption) | (with_reducible refine below_drewN ?_ _) | (with_reducible refine Below.drew ?_) | (with_reducible refine Below.alloc ?_ ?_ _) | (with_reducible refine Below.setCell ?_ ?_ _) | go_size))⟩
  · rw [if_neg hm] at hd
    have HS := Lib.hid (show secs y m d h mi s = (365 * (y + 400) + (y + 400) / 4 - (y + 400) / 100 + (y + 400) / 400 + (153 * (m - 3) + 2) / 5 + d - 1 - 146097 - 719468) * 86400 + (h * 3600 + mi * 60 + s) from by rw [← hd]; rfl)
    clear hd
    have d1 : (y + 400).tdiv 4 = (y + 400) / 4 := Int.tdiv_eq_ediv_of_nonneg (by omega)
    have d2 : (y + 400).tdiv 100 = (y + 400) / 100 := Int.tdiv_eq_ediv_of_nonneg (by omega)
    have d3 : (y + 400).tdiv 400 = (y + 400) / 400 := Int.tdiv_eq_ediv_of_nonneg (by omega)
    have d4 : (153 * (m - 3) + 2).tdiv 5 = (153 * (m - 3) + 2) / 5 := Int.tdiv_eq_ediv_of_nonneg (by omega)
    go_enter Try.func118, Try.ntmps118
    go_upto_region 3 with (first | (go_at_call 87; refine (refvalid_any _ _ _ _ _ _ _).mono ?_; rw [HV.out]; rintro e w1 ⟨rfl, hb1⟩))
    obtain ⟨⟨q0, q1, q2, q3, q4, q5⟩, hb2⟩ := box6 hb1
    clear hb1
    go_wp2
    go_ret2
    exact ⟨ret2 (vint HS.out.symm) rfl, (by repeat' (first | (with_reducible exact Below.refl _ _) | (with_reducible assumption) | (with_reducible refine below_drewN ?_ _) | (with_reducible refine Below.drew ?_) | (with_reducible refine Below.alloc ?_ ?_ _) | (with_reducible refine Below.setCell ?_ ?_ _) | go_size))⟩
end Go.Proofs.Ytnpmgofkfdpbjaa.Clk
/- Walks: comparing of points in time. -/
namespace Go.Proofs.Ytnpmgofkfdpbjaa.Clk
open Go.RowKit Kit

/-- a contract that leaves the world alone, for a still region -/
theorem still_same {P : Program} {f : FuncId} {args : Array Value} {w : World} {v : Value} (h : Calls P f args w fun e w' => e = .returned v ∧ w = w') : Calls P f args w fun e w' => e = .returned v ∧ w' = w :=
  h.mono fun _ _ ⟨he, hm⟩ => ⟨he, hm.symm⟩

theorem nan_any (x : Int) (w : World) : Calls Try.prog 163 #[.int .i64 x] w fun e w' => e = .returned (.bool false) ∧ w = w' := by
  go_enter Try.func163, Try.ntmps163
  go_wp2
  go_ret
  exact ⟨ret_bool (by simp), rfl⟩

set_option maxHeartbeats 400000 in
theorem cmpI_any (a b : Int) (w : World) : Calls Try.prog 150 #[.int .i64 a, .int .i64 b] w fun e w' => e = .returned (.int .i64 (cmpI a b)) ∧ w = w' := by
  rcases cmpI_cases a b with ⟨c, e⟩ | ⟨c, e⟩ | ⟨c, e⟩
  all_goals
    have E := Lib.hid e
    clear e
    try (have c1 : ¬ a < b := by omega)
    go_enter Try.func150, Try.ntmps150
    go_wp2_with (go_at_call 163; refine (nan_any _ _).mono ?_; rintro e w' ⟨rfl, rfl⟩)
    go_ret
    exact ⟨ret_int E.out.symm, rfl⟩

/-- the first number that is not 0 -/
def orL : List Int → Int
  | [] => 0
  | x :: xs => orI x (orL xs)
theorem orL_drop {xs : List Int} {k : Nat} (h : k < xs.length) : orL (xs.drop k) = orI (xs.getD k 0) (orL (xs.drop (k + 1))) := by
  rw [List.drop_eq_getElem_cons h]
  simp [orL, List.getD, List.getElem?_eq_getElem h]

set_option maxHeartbeats 1000000 in
theorem or_any (xs : List Int) (ad : Addr) (n cp : Nat) (w : World) (hn : n = xs.length) (hl : n ≤ 1000) (hc : ∀ k, k < n → w.cell? (ad.add k) = some (.int .i64 (xs.getD k 0))) :
    Calls Try.prog 149 #[.slice (some ad) n cp] w fun e w' => e = .returned (.int .i64 (orL xs)) ∧ ∃ m, w' = w.drewN m := by
  have HC := Lib.hid hc
  have HN := Lib.hid hn
  clear hc hn
  go_enter Try.func149, Try.ntmps149
  go_wp2
  go_loopw [8] (fun i wr => ∃ k m : Nat, k ≤ n ∧ i = .int .i64 (k : Int) ∧ wr = w.drewN m ∧ Hid (orL (xs.drop k) = orL xs)) (fun i _ => n - (intOf i).toNat)
  case atStart => exact ⟨0, 0, Nat.zero_le _, rfl, rfl, Lib.hid rfl⟩
  case round =>
    obtain ⟨k, m, hk, rfl, rfl, hor⟩ := hrel
    by_cases hlt : k < n
    · have hlt' : ((k : Nat) : Int) < (n : Int) := by omega
      have ck := HC.out k hlt
      have hst := Lib.hid ((orL_drop (xs := xs) (k := k) (by rw [← HN.out]; exact hlt)).symm.trans hor.out)
      generalize xs.getD k 0 = v at *
      by_cases hv : v = 0
      · subst hv
        go_wp2
        go_roundw
        case rel => exact ⟨k + 1, m, by omega, by go_num, rfl, Lib.hid (by rw [← hst.out]; rfl)⟩
        case measure => simp [intOf]; omega
      · have hst2 := Lib.hid (show v = orL xs from by rw [← hst.out]; unfold orI; rw [if_pos hv])
        go_wp2
        go_ret
        exact ⟨ret_int hst2.out, (by first | exact ⟨0, rfl⟩ | exact ⟨_, rfl⟩ | (simp only [World.drewN_drewN]; exact ⟨_, rfl⟩))⟩
    · obtain rfl : k = n := by omega
      have hst2 := Lib.hid (show 0 = orL xs from by rw [← hor.out, HN.out, List.drop_length]; rfl)
      go_wp2
      go_ret
      exact ⟨ret_int hst2.out, (by first | exact ⟨0, rfl⟩ | exact ⟨_, rfl⟩ | (simp only [World.drewN_drewN]; exact ⟨_, rfl⟩))⟩

theorem cells6p {w : World} {b : Nat} {x0 x1 x2 x3 x4 x5 : Int} {t : TypeId} (h : w.heap[b]? = some (.cells #[.int .i64 x0, .int .i64 x1, .int .i64 x2, .int .i64 x3, .int .i64 x4, .int .i64 x5] t (0, 0))) :
    ∀ k, k < 6 → w.cell? ((⟨b, 0, none⟩ : Addr).add k) = some (.int .i64 ([x0, x1, x2, x3, x4, x5].getD k 0)) := by
  intro k hk
  rw [add_plain, Nat.zero_add, cell_of_row w b k _ _ _ h]
  have hk' : k = 0 ∨ k = 1 ∨ k = 2 ∨ k = 3 ∨ k = 4 ∨ k = 5 := by omega
  rcases hk' with rfl | rfl | rfl | rfl | rfl | rfl <;> rfl

set_option maxRecDepth 100000 in
set_option maxHeartbeats 4000000 in
theorem cmpT_any (y m d h mi s y' m' d' h' mi' s' : Int) (w : World) :
    Calls Try.prog 116 #[time y m d h mi s, time y' m' d' h' mi' s'] w fun e w' => e = .returned (.int .i64 (cmpT y m d h mi s y' m' d' h' mi' s')) ∧ Below w.heap.size w w' := by
  have HO := Lib.hid (fun (X : World) (b : Nat) x0 x1 x2 x3 x4 x5 t (h : X.heap.size = b) => show Calls Try.prog 149 #[.slice (some ⟨b, 0, none⟩) 6 6] (X.alloc (.cells #[.int .i64 x0, .int .i64 x1, .int .i64 x2, .int .i64 x3, .int .i64 x4, .int .i64 x5] t)).drew fun e w' => e = .returned (.int .i64 (orL [x0, x1, x2, x3, x4, x5])) ∧ ∃ m, w' = (X.alloc (.cells #[.int .i64 x0, .int .i64 x1, .int .i64 x2, .int .i64 x3, .int .i64 x4, .int .i64 x5] t)).drew.drewN m from
    or_any [x0, x1, x2, x3, x4, x5] ⟨b, 0, none⟩ 6 6 _ rfl (by omega) (cells6p (t := t) (by subst h; exact heap_alloc_new _ _)))
  have HE := Lib.hid (show orL [cmpI y y', cmpI m m', cmpI d d', cmpI h h', cmpI mi mi', cmpI s s'] = cmpT y m d h mi s y' m' d' h' mi' s' from by
    unfold cmpT orL orL orL orL orL orL orL
    have : orI (cmpI s s') 0 = cmpI s s' := by unfold orI; split <;> simp_all
    rw [this])
  generalize hr : cmpT y m d h mi s y' m' d' h' mi' s' = r at *
  clear hr
  go_enter Try.func116, Try.ntmps116
  go_wp2
  refine Kit.wp_tail 30 (by kernel_rfl) (by kernel_rfl) ?_
  intro W HW hWc
  simp only [List.take_succ_cons, List.take_zero, List.drop_succ_cons, List.drop_zero]
  repeat (first | still_step | still_call (still_same (cmpI_any _ _ _)))
  refine wpStill_nil ?_
  have HW' := HW.out
  clear HW hWc
  subst HW'
  go_wp2_with (first | (go_at_call 149; refine (HO.out _ _ _ _ _ _ _ _ _ ?_).mono ?_; (focus (simp)); rintro e w1 ⟨rfl, n, rfl⟩))
  go_ret
  exact ⟨ret_int HE.out, (by repeat' (first | (with_reducible exact Below.refl _ _) | (with_reducible assumption) | (with_reducible refine below_drewN ?_ _) | (with_reducible refine Below.drew ?_) | (with_reducible refine Below.alloc ?_ ?_ _) | (with_reducible refine Below.setCell ?_ ?_ _) | go_size))⟩

/-- the cell of a block of six numbers -/
theorem cell6n {w : World} {b : Nat} {x0 x1 x2 x3 x4 x5 : Int} {t : TypeId} (h : w.heap[b]? = some (.cells #[.int .i64 x0, .int .i64 x1, .int .i64 x2, .int .i64 x3, .int .i64 x4, .int .i64 x5] t (0, 0))) {k : Nat} (hk : k < 6) :
    w.cell? ⟨b, k, none⟩ = some (.int .i64 ([x0, x1, x2, x3, x4, x5].getD k 0)) := by
  have := cells6p h k hk
  rwa [add_plain, Nat.zero_add] at this
theorem orL_step {xs ys : List Int} {k : Nat} (hl : xs.length = ys.length) (h : k < xs.length) : orL ((List.zipWith cmpI xs ys).drop k) = orI (cmpI (xs.getD k 0) (ys.getD k 0)) (orL ((List.zipWith cmpI xs ys).drop (k + 1))) := by
  rw [orL_drop (by simp; omega)]
  have h2 : k < ys.length := by omega
  simp [List.getD, List.getElem?_eq_getElem h, List.getElem?_eq_getElem h2, List.getElem?_zipWith]

set_option maxHeartbeats 2000000 in
theorem refcmpT_any (y m d h mi s y' m' d' h' mi' s' : Int) (w : World) :
    Calls Try.prog 119 #[time y m d h mi s, time y' m' d' h' mi' s'] w fun e w' => e = .returned (.int .i64 (cmpT y m d h mi s y' m' d' h' mi' s')) ∧ Below w.heap.size w w' := by
  obtain ⟨xs, hxs⟩ : ∃ xs, xs = [y, m, d, h, mi, s] := ⟨_, rfl⟩
  obtain ⟨ys, hys⟩ : ∃ ys, ys = [y', m', d', h', mi', s'] := ⟨_, rfl⟩
  have HS := Lib.hid (fun k (hk : k < 6) => orL_step (xs := xs) (ys := ys) (k := k) (by subst hxs hys; rfl) (by subst hxs; exact hk))
  have HE := Lib.hid (show orL ((List.zipWith cmpI xs ys).drop 0) = cmpT y m d h mi s y' m' d' h' mi' s' from by
    subst hxs hys
    show orL [cmpI y y', cmpI m m', cmpI d d', cmpI h h', cmpI mi mi', cmpI s s'] = _
    unfold cmpT orL orL orL orL orL orL orL
    have : orI (cmpI s s') 0 = cmpI s s' := by unfold orI; split <;> simp_all
    rw [this])
  have HZ := Lib.hid (show orL ((List.zipWith cmpI xs ys).drop 6) = 0 from by subst hxs hys; rfl)
  have CX := Lib.hid (fun (X : World) (b : Nat) t (hb : X.heap[b]? = some (.cells #[.int .i64 y, .int .i64 m, .int .i64 d, .int .i64 h, .int .i64 mi, .int .i64 s] t (0, 0))) (k : Nat) (hk : k < 6) => show X.cell? ⟨b, k, none⟩ = some (.int .i64 (xs.getD k 0)) from by subst hxs; exact cell6n hb hk)
  have CY := Lib.hid (fun (X : World) (b : Nat) t (hb : X.heap[b]? = some (.cells #[.int .i64 y', .int .i64 m', .int .i64 d', .int .i64 h', .int .i64 mi', .int .i64 s'] t (0, 0))) (k : Nat) (hk : k < 6) => show X.cell? ⟨b, k, none⟩ = some (.int .i64 (ys.getD k 0)) from by subst hys; exact cell6n hb hk)
  generalize hr : cmpT y m d h mi s y' m' d' h' mi' s' = r at *
  clear hr hxs hys
  go_enter Try.func119, Try.ntmps119
  go_wp2
  go_loopw [7] (fun i wr => ∃ k : Nat, k ≤ 6 ∧ i = .int .i64 (k : Int) ∧ Below w.heap.size w wr ∧ Hid (orL ((List.zipWith cmpI xs ys).drop k) = r) ∧
      wr.heap[w.heap.size + 1 + 1]? = some (.cells #[.int .i64 y, .int .i64 m, .int .i64 d, .int .i64 h, .int .i64 mi, .int .i64 s] 3 (0, 0)) ∧
      wr.heap[w.heap.size + 1 + 1 + 1]? = some (.cells #[.int .i64 y', .int .i64 m', .int .i64 d', .int .i64 h', .int .i64 mi', .int .i64 s'] 3 (0, 0))) (fun i _ => 6 - (intOf i).toNat)
  case atStart =>
    refine ⟨0, by omega, rfl, (by repeat' (first | (with_reducible exact Below.refl _ _) | (with_reducible assumption) | (with_reducible refine below_drewN ?_ _) | (with_reducible refine Below.drew ?_) | (with_reducible refine Below.alloc ?_ ?_ _) | (with_reducible refine Below.setCell ?_ ?_ _) | go_size)), HE, ?_, ?_⟩
    · exact bk_old (bk_new (by simp))
    · exact bk_new (by simp)
  case round =>
    obtain ⟨k, hk, rfl, hbr, hor, b1, b2⟩ := hrel
    by_cases hlt : k < 6
    · have hlt' : ((k : Nat) : Int) < 6 := by omega
      have c1 := CX.out _ _ _ b1 k hlt
      have c2 := CY.out _ _ _ b2 k hlt
      have hst := Lib.hid ((HS.out k hlt).symm.trans hor.out)
      have B1 := Lib.hid b1
      have B2 := Lib.hid b2
      have zr := hbr.size
      clear b1 b2
      generalize xs.getD k 0 = a at *
      generalize ys.getD k 0 = b at *
      rcases cmpI_cases a b with ⟨c, e⟩ | ⟨c, e⟩ | ⟨c, e⟩
      · rw [e] at hst
        have E := Lib.hid (show -1 = r from hst.out)
        clear e hst
        go_wp2
        go_quiet (fail)
        go_wp2
        go_ret
        exact ⟨ret_int E.out, (by repeat' (first | (with_reducible exact Below.refl _ _) | (with_reducible assumption) | (with_reducible refine below_drewN ?_ _) | (with_reducible refine Below.drew ?_) | (with_reducible refine Below.alloc ?_ ?_ _) | (with_reducible refine Below.setCell ?_ ?_ _) | go_size))⟩
      · rw [e] at hst
        have E := Lib.hid (show orL ((List.zipWith cmpI xs ys).drop (k + 1)) = r from hst.out)
        clear e hst
        have d1 : ¬ a < b := by omega
        have d2 : ¬ b < a := by omega
        go_wp2
        go_quiet (fail)
        go_wp2
        go_quiet (fail)
        go_wp2
        go_roundw
        case rel => exact ⟨k + 1, by omega, by go_num, (by repeat' (first | (with_reducible exact Below.refl _ _) | (with_reducible assumption) | (with_reducible refine below_drewN ?_ _) | (with_reducible refine Below.drew ?_) | (with_reducible refine Below.alloc ?_ ?_ _) | (with_reducible refine Below.setCell ?_ ?_ _) | go_size)), E, B1.out, B2.out⟩
        case measure => simp [intOf]; omega
      · rw [e] at hst
        have E := Lib.hid (show 1 = r from hst.out)
        clear e hst
        have d1 : ¬ a < b := by omega
        go_wp2
        go_quiet (fail)
        go_wp2
        go_quiet (fail)
        go_wp2
        go_ret
        exact ⟨ret_int E.out, (by repeat' (first | (with_reducible exact Below.refl _ _) | (with_reducible assumption) | (with_reducible refine below_drewN ?_ _) | (with_reducible refine Below.drew ?_) | (with_reducible refine Below.alloc ?_ ?_ _) | (with_reducible refine Below.setCell ?_ ?_ _) | go_size))⟩
    · obtain rfl : k = 6 := by omega
      have E := Lib.hid (show 0 = r from by rw [← hor.out]; exact HZ.out.symm)
      have zr := hbr.size
      go_wp2
      go_ret
      exact ⟨ret_int E.out, (by repeat' (first | (with_reducible exact Below.refl _ _) | (with_reducible assumption) | (with_reducible refine below_drewN ?_ _) | (with_reducible refine Below.drew ?_) | (with_reducible refine Below.alloc ?_ ?_ _) | (with_reducible refine Below.setCell ?_ ?_ _) | go_size))⟩
end Go.Proofs.Ytnpmgofkfdpbjaa.Clk
