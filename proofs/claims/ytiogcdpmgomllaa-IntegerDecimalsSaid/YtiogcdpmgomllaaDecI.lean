/- The walk of IntegerDecimals. -/
import Derived.Test.YtiogcdpmgomllaaDecH
import Derived.Test.YtiogcdpmgomllaaIntL
set_option linter.unusedSimpArgs false
set_option linter.unusedVariables false
namespace Go.Proofs.Ytiogcdpmgomllaa
open Go.RowKit Kit Tlv Int4 Cur

theorem Int4.decL_len : ∀ (k n : Nat), n < 10 ^ (k + 1) → (decL n).length ≤ k + 1 := by
  intro k
  induction k with
  | zero => intro n h; rw [decL_small (by omega)]; simp
  | succ k ih =>
    intro n h
    by_cases g : n < 10
    · rw [decL_small g]; simp
    · rw [decL_big g, List.length_append]
      have := ih (n / 10) (by rw [Nat.pow_succ] at h; omega)
      simp only [List.length_singleton]
      omega
theorem Int4.decI_len {l : List UInt8} (h : l.length ≤ 60) : (decI l).length ≤ 181 := by
  unfold decI
  split
  · simp
  have b := be_lt l
  have c : (256 : Nat) ^ l.length ≤ 256 ^ 60 := Nat.pow_le_pow_right (by omega) h
  have d : (256 : Nat) ^ 60 < 10 ^ (179 + 1) := by decide +kernel
  split
  · have := decL_len 179 (256 ^ l.length - be l) (by omega)
    simp only [List.length_cons]
    omega
  · have := decL_len 179 (be l) (by omega)
    omega
theorem Int4.str_same (a : ByteArray) : (a.toList == a.toList) = true := by simp

set_option maxRecDepth 100000 in
set_option maxHeartbeats 8000000 in
theorem IntegerDecimals.walk (a0 : Option Addr) (len0 cap0 : Nat) (l0 : List UInt8) (S : ByteArray) (w : World) (rd0 : Rd w w.heap.size a0 len0 l0) (hc0 : len0 ≤ cap0) (hm0 : cap0 ≤ maxLen) (hs : S.size ≤ maxLen) :
    Calls Try.prog 3 #[.slice a0 len0 cap0, .string S] w fun e w' => e = .returned (.bool true) ∧ Below w.heap.size w w' := by
  by_cases hbig : 60 < len0
  · clear hc0 hm0
    go_enter Try.func3, Try.ntmps3
    go_wp2_with fail
    refine (awake4_any _).mono ?_
    rintro e w1 ⟨rfl, hb1⟩
    go_wp2_with fail
    refine (awake4_any _).mono ?_
    rintro e w2 ⟨rfl, hb2⟩
    go_wp2_with fail
    go_ret
    exact ⟨rfl, hb1.trans (hb2.mono hb1.size)⟩
  by_cases hbig2 : 100 < S.size
  · clear hc0 hm0
    have hb0 : ¬ (60 : Int) < (len0 : Int) := by omega
    have hb1 : (100 : Int) < (S.size : Int) := by omega
    go_enter Try.func3, Try.ntmps3
    go_wp2_with fail
    refine (awake4_any _).mono ?_
    rintro e w1 ⟨rfl, hb1⟩
    go_wp2_with fail
    refine (awake4_any _).mono ?_
    rintro e w2 ⟨rfl, hb2⟩
    go_wp2_with fail
    go_ret
    exact ⟨rfl, hb1.trans (hb2.mono hb1.size)⟩
  have hb0 : ¬ (60 : Int) < (len0 : Int) := by omega
  have hb1 : ¬ (100 : Int) < (S.size : Int) := by omega
  have hl := rd0.len
  have hTl := decI_len (l := l0) (by omega)
  obtain ⟨T, hT⟩ : ∃ T : ByteArray, (⟨(decI l0).toArray⟩ : ByteArray) = T := ⟨_, rfl⟩
  have hTd : T.data.toList = decI l0 := by rw [← hT]
  have hTs : T.size ≤ 181 := by
    have : T.data.toList.length = T.size := Array.length_toList
    rw [hTd] at this
    omega
  have DE := Lib.hid (fun (X : World) (h : Rd X X.heap.size a0 len0 l0) => decimal_any (c := cap0) X h (Nat.le_refl _) hc0 hm0 (by omega))
  have RD := Lib.hid (fun (X : World) (h : Rd X X.heap.size a0 len0 l0) => refdecimal_any (c := cap0) X h (Nat.le_refl _) (by omega))
  rw [hT] at DE RD
  have PA := Lib.hid (fun (X : World) => par_any S X (by omega))
  have RP := Lib.hid (fun (X : World) => refpar_any S X (by omega))
  have PT := Lib.hid (fun (X : World) => par_any T X (by omega))
  rw [hTd] at PT
  have VA := Lib.hid (fun (X : World) (h : Rd X X.heap.size a0 len0 l0) => refvalid_any (c := cap0) X h (Nat.le_refl _))
  have TT := str_same T
  have EMP := Lib.hid (fun (h : validI l0 = false) => show T = { data := #[] } from by
    rw [← hT, show decI l0 = [] from by unfold decI; rw [if_pos h]])
  clear hT hc0 hm0 hl hTl hbig hbig2
  go_enter Try.func3, Try.ntmps3
  go_wp2_with fail
  refine (awake4_any _).mono ?_
  rintro e w1 ⟨rfl, bel⟩
  have q := rd0.past bel
  clear rd0
  go_wp2_with fail
  refine (DE.out _ q).mono ?_
  rintro e w2 ⟨rfl, hb⟩
  replace q := q.past hb
  replace bel := two_belowK bel hb bel.size
  clear hb DE
  go_wp2_with fail
  refine (PA.out _).mono ?_
  rintro e w3 ⟨u, k, A3, c3, rfl, r3, hc3, hm3, hb, hl3, hp3⟩
  replace q := q.past hb
  replace bel := two_belowK bel hb bel.size
  clear hb PA
  go_wp2_with fail
  refine (RP.out _).mono ?_
  rintro e w4 ⟨u', k', A4, c4, rfl, r4, -, -, hb, -, hp4⟩
  obtain ⟨rfl, rfl⟩ := hp3.same hp4
  replace q := q.past hb
  replace r3 := r3.past hb
  replace bel := two_belowK bel hb bel.size
  have HP := Lib.hid hp3
  clear hb RP hp3 hp4
  go_wp2_with fail
  refine (RD.out _ q).mono ?_
  rintro e w5 ⟨rfl, hb⟩
  replace q := q.past hb
  replace r3 := r3.past hb
  replace r4 := r4.past hb
  replace bel := two_belowK bel hb bel.size
  clear hb RD
  go_wp2_with fail
  refine Calls.mono (bytesK _ _ _ _ _ _ u u _ r3 r4) ?_
  rw [Cur.eqB_self]
  rintro e w' ⟨rfl, rfl⟩
  clear r4
  go_wp2_with fail
  refine (PT.out _).mono ?_
  rintro e w6 ⟨v, kv, A6, c6, rfl, r6, -, -, hb, -, hp6⟩
  replace q := q.past hb
  replace r3 := r3.past hb
  replace bel := two_belowK bel hb bel.size
  clear hb PT
  have DX := Lib.hid (decimal_any (c := c3) w6 r3 (Nat.le_refl _) hc3 hm3 hl3)
  cases hv : validI l0 with
  | false =>
    obtain rfl := EMP.out hv
    rw [show decI l0 = [] from by unfold decI; rw [if_pos hv]] at hp6
    obtain ⟨rfl, rfl⟩ := hp6.empty
    rw [hv] at VA
    clear hv EMP DX hTd
    go_wp2_with fail
    refine (VA.out _ q).mono ?_
    rintro e w' ⟨rfl, rfl⟩
    clear VA
    go_wp2_with fail
    go_ret
    exact ⟨(by first | rfl | exact ret_bool (by simp)), bel⟩
  | true =>
    obtain ⟨rfl, rfl⟩ := hp6.back hv
    rw [hv] at VA
    clear hv EMP hTd hp6
    go_wp2_with fail
    refine (VA.out _ q).mono ?_
    rintro e w' ⟨rfl, rfl⟩
    clear VA
    rcases HP.out with ⟨rfl, hu, hd⟩ | ⟨rfl, rfl, -⟩
    · rw [str_data.2 hd] at DX
      have SS := str_same S
      clear HP hu hd
      go_wp2_with fail
      refine Calls.mono (bytesK _ _ _ _ _ _ _ _ _ r6 q) ?_
      rw [Cur.eqB_self]
      rintro e w' ⟨rfl, rfl⟩
      clear r6
      go_wp2_with fail
      refine DX.out.mono ?_
      rintro e w7 ⟨rfl, hb⟩
      replace bel := two_belowK bel hb bel.size
      clear hb DX r3 q
      go_wp2_with fail
      go_ret
      exact ⟨(by first | rfl | exact ret_bool (by simp)), bel⟩
    · clear HP DX
      go_wp2_with fail
      refine Calls.mono (bytesK _ _ _ _ _ _ _ _ _ r6 q) ?_
      rw [Cur.eqB_self]
      rintro e w' ⟨rfl, rfl⟩
      clear r6
      go_wp2_with fail
      go_ret
      exact ⟨(by first | rfl | exact ret_bool (by simp)), bel⟩
end Go.Proofs.Ytiogcdpmgomllaa
