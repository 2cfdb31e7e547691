/- The walk of IntegerOrders. -/
import Derived.Test.YtjdnjmggpomhcaaIntN
import Derived.Test.YtjdnjmggpomhcaaIntI
set_option linter.unusedSimpArgs false
set_option linter.unusedVariables false
namespace Go.Proofs.Ytjdnjmggpomhcaa
open Go.RowKit Kit Tlv Int4

theorem Int4.cmpI_three (a b : List UInt8) : cmpI a b = -1 ∨ cmpI a b = 0 ∨ cmpI a b = 1 := by
  by_cases h : validI a = true ∧ validI b = true
  · rw [cmpI_ok h.1 h.2]; rcases sgn_three (sv a - sv b) with ⟨_, e⟩ | ⟨_, e⟩ | ⟨_, e⟩ <;> rw [e] <;> simp
  · rw [cmpI_bad h]; simp
theorem Int4.cmpI_lt {a b : List UInt8} (ha : validI a = true) (hb : validI b = true) : (cmpI a b < 0 ↔ sv a < sv b) ∧ (cmpI a b = 0 ↔ a = b) ∧ (0 < cmpI a b ↔ sv b < sv a) := by
  rw [cmpI_ok ha hb]
  rcases sgn_three (sv a - sv b) with ⟨h, e⟩ | ⟨h, e⟩ | ⟨h, e⟩ <;> rw [e]
  · exact ⟨by omega, ⟨fun h' => by omega, fun h' => by subst h'; omega⟩, by omega⟩
  · exact ⟨by omega, ⟨fun _ => sv_inj ha hb (by omega), fun _ => rfl⟩, by omega⟩
  · exact ⟨by omega, ⟨fun h' => by omega, fun h' => by subst h'; omega⟩, by omega⟩
theorem Int4.int_sv {l : List UInt8} (h : intOk l = true) : intV l = sv l := by unfold intV; rw [if_pos h]

set_option maxRecDepth 100000 in
set_option maxHeartbeats 8000000 in
theorem IntegerOrders.walk (a0 : Option Addr) (len0 cap0 : Nat) (l0 : List UInt8) (a1 : Option Addr) (len1 cap1 : Nat) (l1 : List UInt8) (a2 : Option Addr) (len2 cap2 : Nat) (l2 : List UInt8) (w : World)
    (rd0 : Rd w w.heap.size a0 len0 l0) (hc0 : len0 ≤ cap0) (hm0 : cap0 ≤ maxLen) (rd1 : Rd w w.heap.size a1 len1 l1) (hc1 : len1 ≤ cap1) (hm1 : cap1 ≤ maxLen) (rd2 : Rd w w.heap.size a2 len2 l2) (hc2 : len2 ≤ cap2) (hm2 : cap2 ≤ maxLen) :
    Calls Try.prog 14 #[.slice a0 len0 cap0, .slice a1 len1 cap1, .slice a2 len2 cap2] w fun e w' => e = .returned (.bool true) ∧ Below w.heap.size w w' := by
  clear hc0 hm0 hc1 hm1 hc2 hm2
  by_cases hbig : 500 < len0 ∨ 500 < len1 ∨ 500 < len2
  · by_cases g0 : 500 < len0 <;> by_cases g1 : 500 < len1 <;> by_cases g2 : 500 < len2
    all_goals first
      | (exfalso; omega)
      | (clear hbig
         go_enter Try.func14, Try.ntmps14
         go_wp2_with fail
         refine (awake4_any _).mono ?_
         rintro e w1 ⟨rfl, hb1⟩
         go_wp2_with fail
         refine (awake4_any _).mono ?_
         rintro e w2 ⟨rfl, hb2⟩
         go_wp2_with fail
         go_ret
         exact ⟨rfl, hb1.trans (hb2.mono hb1.size)⟩)
  have g0 : ¬ 500 < len0 := by omega
  have g1 : ¬ 500 < len1 := by omega
  have g2 : ¬ 500 < len2 := by omega
  clear hbig
  have mb : ∀ k, ¬ 500 < k → k ≤ maxLen := fun k h => by unfold maxLen; omega
  have C01 := Lib.hid (fun (w : World) (h : Rd w w.heap.size a0 len0 l0) (h' : Rd w w.heap.size a1 len1 l1) => icompare_any (c1 := cap0) (c2 := cap1) w h (Nat.le_refl _) h' (Nat.le_refl _) (mb _ g0) (mb _ g1))
  have C12 := Lib.hid (fun (w : World) (h : Rd w w.heap.size a1 len1 l1) (h' : Rd w w.heap.size a2 len2 l2) => icompare_any (c1 := cap1) (c2 := cap2) w h (Nat.le_refl _) h' (Nat.le_refl _) (mb _ g1) (mb _ g2))
  have C02 := Lib.hid (fun (w : World) (h : Rd w w.heap.size a0 len0 l0) (h' : Rd w w.heap.size a2 len2 l2) => icompare_any (c1 := cap0) (c2 := cap2) w h (Nat.le_refl _) h' (Nat.le_refl _) (mb _ g0) (mb _ g2))
  have C10 := Lib.hid (fun (w : World) (h : Rd w w.heap.size a1 len1 l1) (h' : Rd w w.heap.size a0 len0 l0) => icompare_any (c1 := cap1) (c2 := cap0) w h (Nat.le_refl _) h' (Nat.le_refl _) (mb _ g1) (mb _ g0))
  rw [cmpI_neg l0 l1] at C10
  have R01 := Lib.hid (fun (w : World) (h : Rd w w.heap.size a0 len0 l0) (h' : Rd w w.heap.size a1 len1 l1) => refcompareI_any (c1 := cap0) (c2 := cap1) w h (Nat.le_refl _) h' (Nat.le_refl _) (by omega) (by omega))
  have V0 := Lib.hid (fun (w : World) (h : Rd w w.heap.size a0 len0 l0) => refvalid_any (c := cap0) w h (Nat.le_refl _))
  have V1 := Lib.hid (fun (w : World) (h : Rd w w.heap.size a1 len1 l1) => refvalid_any (c := cap1) w h (Nat.le_refl _))
  have V2 := Lib.hid (fun (w : World) (h : Rd w w.heap.size a2 len2 l2) => refvalid_any (c := cap2) w h (Nat.le_refl _))
  have I0 := Lib.hid (fun (w : World) (h : Rd w w.heap.size a0 len0 l0) => refint_any (c := cap0) w h (Nat.le_refl _))
  have I1 := Lib.hid (fun (w : World) (h : Rd w w.heap.size a1 len1 l1) => refint_any (c := cap1) w h (Nat.le_refl _))
  have LT := Lib.hid (fun ha hb => cmpI_lt (a := l0) (b := l1) ha hb)
  have LU := Lib.hid (fun ha hb => cmpI_lt (a := l1) (b := l2) ha hb)
  have LV := Lib.hid (fun ha hb => cmpI_lt (a := l0) (b := l2) ha hb)
  have S0 := Lib.hid (fun h => int_sv (l := l0) h)
  have S1 := Lib.hid (fun h => int_sv (l := l1) h)
  have EB := Lib.hid (fun (w : World) (h : Rd w w.heap.size a0 len0 l0) (h' : Rd w w.heap.size a1 len1 l1) => bytesK a0 a1 len0 cap0 len1 cap1 l0 l1 w h h')
  have EQ := Lib.hid (show Cur.eqB l0 l1 = decide (l0 = l1) from rfl)
  have x3 := cmpI_three l0 l1
  generalize cmpI l0 l1 = x at *
  generalize cmpI l1 l2 = y at *
  generalize cmpI l0 l2 = z at *
  generalize Cur.eqB l0 l1 = eq at *
  generalize intV l0 = n at *
  generalize intV l1 = m at *
  generalize intOk l0 = ok at *
  generalize intOk l1 = is at *
  have xb0 : -1 ≤ x := by omega
  have xb1 : x ≤ 1 := by omega
  clear mb
  go_enter Try.func14, Try.ntmps14
  go_upto_region 3 with (first | (go_at_call 16; refine (awake4_any _).mono ?_; rintro e w1 ⟨rfl, bel⟩))
  have q0 := rd0.past bel
  have q1 := rd1.past bel
  have q2 := rd2.past bel
  clear rd0 rd1 rd2
  go_wp2_with fail
  refine Calls.mono (C01.out _ q0 q1) ?_
  rintro e w' ⟨rfl, rfl⟩
  go_wp2_with fail
  refine Calls.mono (C12.out _ q1 q2) ?_
  rintro e w' ⟨rfl, rfl⟩
  go_wp2_with fail
  refine Calls.mono (C02.out _ q0 q2) ?_
  rintro e w' ⟨rfl, rfl⟩
  go_wp2_with fail
  refine Calls.mono (R01.out _ q0 q1) ?_
  rintro e w2 ⟨rfl, hb⟩
  replace q0 := q0.past hb
  replace q1 := q1.past hb
  replace q2 := q2.past hb
  replace bel := two_belowK bel hb bel.size
  clear hb C01 C12 C02 R01
  go_wp2_with fail
  refine Calls.mono (C10.out _ q1 q0) ?_
  rintro e w' ⟨rfl, rfl⟩
  clear C10
  cases v0 : validI l0 with
  | false =>
    rw [v0] at V0
    clear x3
    go_wp2_with (first | (go_at_call 32; (with_reducible refine Calls.mono (V0.out _ q0) ?_); rintro e w' ⟨rfl, rfl⟩))
    go_ret
    exact ⟨(by first | rfl | exact ret_bool (by simp)), bel⟩
  | true =>
  cases v1 : validI l1 with
  | false =>
    rw [v0] at V0
    rw [v1] at V1
    clear x3
    go_wp2_with (first | (go_at_call 32; (with_reducible refine Calls.mono (V0.out _ q0) ?_); rintro e w' ⟨rfl, rfl⟩) | (go_at_call 32; (with_reducible refine Calls.mono (V1.out _ q1) ?_); rintro e w' ⟨rfl, rfl⟩))
    go_ret
    exact ⟨(by first | rfl | exact ret_bool (by simp)), bel⟩
  | true =>
  cases v2 : validI l2 with
  | false =>
    rw [v0] at V0
    rw [v1] at V1
    rw [v2] at V2
    clear x3
    go_wp2_with (first | (go_at_call 32; (with_reducible refine Calls.mono (V0.out _ q0) ?_); rintro e w' ⟨rfl, rfl⟩) | (go_at_call 32; (with_reducible refine Calls.mono (V1.out _ q1) ?_); rintro e w' ⟨rfl, rfl⟩) | (go_at_call 32; (with_reducible refine Calls.mono (V2.out _ q2) ?_); rintro e w' ⟨rfl, rfl⟩))
    go_ret
    exact ⟨(by first | rfl | exact ret_bool (by simp)), bel⟩
  | true =>
  rw [v0] at V0
  rw [v1] at V1
  rw [v2] at V2
  obtain ⟨L1, L2, L3⟩ := LT.out v0 v1
  obtain ⟨M1, M2, M3⟩ := LU.out v1 v2
  obtain ⟨N1, N2, N3⟩ := LV.out v0 v2
  have hyz : 0 < x ∨ 0 < y ∨ z ≤ 0 := by omega
  have heq : eq = decide (x = 0) := by rw [EQ.out]; exact decide_eq_decide.2 L2.symm
  have hnm : ok = true → is = true → ((x < 0 ∧ n < m) ∨ (¬ x < 0 ∧ ¬ n < m)) := fun h1 h2 => by
    rw [S0.out h1, S1.out h2]; omega
  subst heq
  clear L1 L2 L3 M1 M2 M3 N1 N2 N3 LT LU LV EQ S0 S1 v0 v1 v2
  have HNM := Lib.hid hnm
  have HYZ := Lib.hid hyz
  clear hnm hyz
  go_upto_region 8 with (first | (go_at_call 32; (with_reducible refine Calls.mono (V0.out _ q0) ?_); rintro e w' ⟨rfl, rfl⟩) | (go_at_call 32; (with_reducible refine Calls.mono (V1.out _ q1) ?_); rintro e w' ⟨rfl, rfl⟩) | (go_at_call 32; (with_reducible refine Calls.mono (V2.out _ q2) ?_); rintro e w' ⟨rfl, rfl⟩))
  clear V0 V1 V2
  have fin : ∀ (p : Prop), (x = 1 → p) → (x = 0 → p) → (x = -1 → p) → p := fun p h1 h2 h3 => by
    rcases x3 with h | h | h
    · exact h3 h
    · exact h2 h
    · exact h1 h
  have hb : (ok = true ∧ is = true ∧ ((x < 0 ∧ n < m) ∨ (¬ x < 0 ∧ ¬ n < m))) ∨ ok = false ∨ (ok = true ∧ is = false) := by
    cases hok : ok
    · exact .inr (.inl rfl)
    · cases his : is
      · exact .inr (.inr ⟨rfl, rfl⟩)
      · exact .inl ⟨rfl, rfl, by have := HNM.out hok his; omega⟩
  have hxy : (x = 1) ∨ (x = 0 ∧ 0 < y) ∨ (x = 0 ∧ ¬ 0 < y ∧ z ≤ 0) ∨ (x = -1 ∧ 0 < y) ∨ (x = -1 ∧ ¬ 0 < y ∧ z ≤ 0) := by
    have := HYZ.out
    omega
  clear fin HNM HYZ x3 xb0 xb1
  rcases hxy with rfl | ⟨rfl, hy⟩ | ⟨rfl, hy, hz⟩ | ⟨rfl, hy⟩ | ⟨rfl, hy, hz⟩
  all_goals
    try rw [show decide ((1 : Int) = 0) = false from rfl] at EB
    try rw [show decide ((0 : Int) = 0) = true from rfl] at EB
    try rw [show decide ((-1 : Int) = 0) = false from rfl] at EB
    rcases hb with ⟨rfl, rfl, h⟩ | rfl | ⟨rfl, rfl⟩
    all_goals
      try (rcases h with ⟨h1, h2⟩ | ⟨h1, h2⟩)
      all_goals first
        | (exfalso; omega)
        | (try clear h1
           go_wp2_with (first | (go_at_call 29; (with_reducible refine Calls.mono (I0.out _ q0) ?_); rintro e w' ⟨rfl, rfl⟩) | (go_at_call 29; (with_reducible refine Calls.mono (I1.out _ q1) ?_); rintro e w' ⟨rfl, rfl⟩) | (go_at_call 21; (refine Calls.mono (EB.out _ q0 q1) ?_); rintro e w' ⟨rfl, rfl⟩))
           go_ret
           exact ⟨(by first | rfl | exact ret_bool (by simp)), bel⟩)
end Go.Proofs.Ytjdnjmggpomhcaa
