/- The walks of IntegerSimple, IntegerReads. -/
import Derived.Test.YtjdnjmggpomhcaaIntL
set_option linter.unusedSimpArgs false
set_option linter.unusedVariables false
namespace Go.Proofs.Ytjdnjmggpomhcaa
open Go.RowKit Kit Tlv Int4

theorem Int4.bool_back (b : Bool) : boolV (boolL b) = b ∧ boolC (boolL b) = 0 := by cases b <;> decide +kernel
theorem Int4.bool_read {l : List UInt8} (h : boolC l = 0) : l.length = 1 ∧ boolL (boolV l) = l := by
  unfold boolC at h
  by_cases g : l.length = 1 ∧ (bt l 0 = 0 ∨ bt l 0 = 255)
  · refine ⟨g.1, ?_⟩
    obtain ⟨g1, g2⟩ := g
    match l, g1 with
    | [x], _ =>
      have e : bt [x] 0 = (x.toNat : Int) := rfl
      rw [e] at g2
      unfold boolL boolV
      rw [e]
      rcases g2 with g2 | g2
      · have : x = 0 := UInt8.toNat_inj.1 (by have : (0 : UInt8).toNat = 0 := rfl; omega)
        subst this; decide +kernel
      · have : x = 255 := UInt8.toNat_inj.1 (by have : (255 : UInt8).toNat = 255 := rfl; omega)
        subst this; decide +kernel
  · rw [if_neg g] at h; omega
theorem Int4.boolC_06 (l : List UInt8) : boolC l = 0 ∨ boolC l = 6 := by unfold boolC; split <;> simp

set_option maxRecDepth 100000 in
set_option maxHeartbeats 4000000 in
theorem IntegerSimple.walk (a0 : Option Addr) (len0 cap0 : Nat) (l0 : List UInt8) (v : Bool) (w : World) (rd0 : Rd w w.heap.size a0 len0 l0) (hc0 : len0 ≤ cap0) (hm0 : cap0 ≤ maxLen) :
    Calls Try.prog 5 #[.slice a0 len0 cap0, .bool v] w fun e w' => e = .returned (.bool true) ∧ Below w.heap.size w w' := by
  clear hc0 hm0
  by_cases hbig : 2000 < len0
  · go_enter Try.func5, Try.ntmps5
    go_wp2_with fail
    refine (awake4_any _).mono ?_
    rintro e w1 ⟨rfl, hb1⟩
    go_wp2_with fail
    refine (awake4_any _).mono ?_
    rintro e w2 ⟨rfl, hb2⟩
    go_wp2_with fail
    go_ret
    exact ⟨rfl, hb1.trans (hb2.mono hb1.size)⟩
  have BO := Lib.hid (fun (w : World) (h : Rd w w.heap.size a0 len0 l0) => boolean_any (c := cap0) w h (Nat.le_refl _))
  have SO := Lib.hid (fun (w : World) (h : Rd w w.heap.size a0 len0 l0) => refboolean_any (c := cap0) w h (Nat.le_refl _))
  have FV := Lib.hid (fun (w : World) => frombool_any v w)
  have BV := Lib.hid (fun (A : Option Addr) (c : Nat) (w : World) (h : Rd w w.heap.size A 1 (boolL v)) => boolean_any (c := c) w h (Nat.le_refl _))
  rw [(bool_back v).1, (bool_back v).2] at BV
  have FX := Lib.hid (fun (w : World) => frombool_any (boolV l0) w)
  have NU := Lib.hid (fun (w : World) => null_any (A := a0) (n := len0) (c := cap0) w)
  have hl := rd0.len
  rcases boolC_06 l0 with hz | hz
  · obtain ⟨p1, p2⟩ := bool_read hz
    obtain rfl : len0 = 1 := by omega
    rw [hz] at BO SO
    rw [p2] at FX
    rw [show nullC 1 = 6 from rfl] at NU
    clear hz p1 p2 hl
    generalize boolV l0 = x at *
    go_enter Try.func5, Try.ntmps5
    go_upto_region 3 with (first | (go_at_call 16; refine (awake4_any _).mono ?_; rintro e w1 ⟨rfl, bel⟩))
    have q := rd0.past bel
    clear rd0
    go_upto_region 5 with (first | (go_at_call 25; refine (BO.out _ q).mono ?_; rintro e w' ⟨rfl, rfl⟩) | (go_at_call 26; refine (SO.out _ q).mono ?_; rintro e w' ⟨rfl, rfl⟩))
    go_wp2_with fail
    refine (FV.out _).mono ?_
    rintro e w2 ⟨A2, c2, rfl, o2, hb⟩
    have r2 := o2.rd
    replace q := q.past hb
    replace bel := two_belowK bel hb bel.size
    clear hb o2 FV
    go_wp2_with (first | (go_at_call 25; refine (BV.out _ _ _ r2).mono ?_; rintro e w' ⟨rfl, rfl⟩) | (go_at_call 28; refine (NU.out _).mono ?_; rintro e w' ⟨rfl, rfl⟩) | (go_at_call 27; refine (FX.out _).mono ?_; rintro e w3 ⟨A3, c3, rfl, o3, hb3⟩) | (go_at_call 21; (refine Calls.mono (bytesK _ _ _ _ _ _ l0 l0 _ o3.rd (q.past hb3)) ?_); rw [Cur.eqB_self]; rintro e w' ⟨rfl, rfl⟩))
    go_ret
    exact ⟨(by first | rfl | exact ret_bool (by simp)), two_belowK bel hb3 bel.size⟩
  · rw [hz] at BO SO
    clear FX hz hl
    generalize boolV l0 = x at *
    by_cases h0 : len0 = 0
    · subst h0
      rw [show nullC 0 = 0 from rfl] at NU
      go_enter Try.func5, Try.ntmps5
      go_upto_region 3 with (first | (go_at_call 16; refine (awake4_any _).mono ?_; rintro e w1 ⟨rfl, bel⟩))
      have q := rd0.past bel
      clear rd0
      go_upto_region 5 with (first | (go_at_call 25; refine (BO.out _ q).mono ?_; rintro e w' ⟨rfl, rfl⟩) | (go_at_call 26; refine (SO.out _ q).mono ?_; rintro e w' ⟨rfl, rfl⟩))
      go_wp2_with fail
      refine (FV.out _).mono ?_
      rintro e w2 ⟨A2, c2, rfl, o2, hb⟩
      have r2 := o2.rd
      replace bel := two_belowK bel hb bel.size
      clear hb o2 FV
      go_wp2_with (first | (go_at_call 25; refine (BV.out _ _ _ r2).mono ?_; rintro e w' ⟨rfl, rfl⟩) | (go_at_call 28; refine (NU.out _).mono ?_; rintro e w' ⟨rfl, rfl⟩))
      go_ret
      exact ⟨(by first | rfl | exact ret_bool (by simp)), bel⟩
    · rw [show nullC len0 = 6 from by unfold nullC; rw [if_pos (by omega)]] at NU
      have h0' : ((len0 : Int) == 0) = false := by rw [beq_eq_false_iff_ne]; omega
      have h0'' : (0 : Int) < (len0 : Int) := by omega
      go_enter Try.func5, Try.ntmps5
      go_upto_region 3 with (first | (go_at_call 16; refine (awake4_any _).mono ?_; rintro e w1 ⟨rfl, bel⟩))
      have q := rd0.past bel
      clear rd0
      go_upto_region 5 with (first | (go_at_call 25; refine (BO.out _ q).mono ?_; rintro e w' ⟨rfl, rfl⟩) | (go_at_call 26; refine (SO.out _ q).mono ?_; rintro e w' ⟨rfl, rfl⟩))
      go_wp2_with fail
      refine (FV.out _).mono ?_
      rintro e w2 ⟨A2, c2, rfl, o2, hb⟩
      have r2 := o2.rd
      replace bel := two_belowK bel hb bel.size
      clear hb o2 FV
      go_wp2_with (first | (go_at_call 25; refine (BV.out _ _ _ r2).mono ?_; rintro e w' ⟨rfl, rfl⟩) | (go_at_call 28; refine (NU.out _).mono ?_; rintro e w' ⟨rfl, rfl⟩))
      go_ret
      exact ⟨(by first | rfl | exact ret_bool (by simp)), bel⟩

set_option maxRecDepth 100000 in
set_option maxHeartbeats 4000000 in
theorem IntegerReads.walk (a0 : Option Addr) (len0 cap0 : Nat) (l0 : List UInt8) (w : World) (rd0 : Rd w w.heap.size a0 len0 l0) (hc0 : len0 ≤ cap0) (hm0 : cap0 ≤ maxLen) :
    Calls Try.prog 6 #[.slice a0 len0 cap0] w fun e w' => e = .returned (.bool true) ∧ Below w.heap.size w w' := by
  by_cases hbig : 2000 < len0
  · clear hc0 hm0
    go_enter Try.func6, Try.ntmps6
    go_wp2_with fail
    refine (awake4_any _).mono ?_
    rintro e w1 ⟨rfl, hb1⟩
    go_wp2_with fail
    refine (awake4_any _).mono ?_
    rintro e w2 ⟨rfl, hb2⟩
    go_wp2_with fail
    go_ret
    exact ⟨rfl, hb1.trans (hb2.mono hb1.size)⟩
  have I1 := Lib.hid (fun (w : World) (h : Rd w w.heap.size a0 len0 l0) => int_any (c := cap0) w h (Nat.le_refl _) hc0)
  have I2 := Lib.hid (fun (w : World) (h : Rd w w.heap.size a0 len0 l0) => refint_any (c := cap0) w h (Nat.le_refl _))
  have U1 := Lib.hid (fun (w : World) (h : Rd w w.heap.size a0 len0 l0) => unsigned_any (c := cap0) w h (Nat.le_refl _) hc0 hm0 (by omega))
  have U2 := Lib.hid (fun (w : World) (h : Rd w w.heap.size a0 len0 l0) => refunsigned_any (c := cap0) w h (Nat.le_refl _) hc0 hm0)
  have V1 := Lib.hid (fun (w : World) (h : Rd w w.heap.size a0 len0 l0) => valid_any (c := cap0) w h (Nat.le_refl _))
  have V2 := Lib.hid (fun (w : World) (h : Rd w w.heap.size a0 len0 l0) => refvalid_any (c := cap0) w h (Nat.le_refl _))
  have S1 := Lib.hid (fun (w : World) (h : Rd w w.heap.size a0 len0 l0) => sign_any (c := cap0) w h (Nat.le_refl _))
  have S2 := Lib.hid (fun (w : World) (h : Rd w w.heap.size a0 len0 l0) => refsign_any (c := cap0) w h (Nat.le_refl _) (by omega))
  unfold UnsR at U2
  clear hc0 hm0
  generalize intV l0 = x1 at *
  generalize intOk l0 = x2 at *
  generalize unsD l0 = x3 at *
  generalize unsC l0 = x4 at *
  generalize validI l0 = x5 at *
  generalize signI l0 = x6 at *
  go_enter Try.func6, Try.ntmps6
  go_upto_region 3 with (first | (go_at_call 16; refine (awake4_any _).mono ?_; rintro e w1 ⟨rfl, bel⟩))
  have q := rd0.past bel
  clear rd0
  go_upto_region 5 with (first | (go_at_call 18; refine (I1.out _ q).mono ?_; rintro e w' ⟨rfl, rfl⟩) | (go_at_call 29; refine (I2.out _ q).mono ?_; rintro e w' ⟨rfl, rfl⟩))
  go_upto_region 6 with (first | (go_at_call 20; refine (U1.out _ q).mono ?_; rintro e w2 ⟨A2, c2, rfl, o2, hb⟩))
  have r2 := o2.rd
  replace q := q.past hb
  replace bel := two_belowK bel hb bel.size
  clear hb o2 I1 I2 U1
  go_upto_region 7 with (first | (go_at_call 30; refine (U2.out _ q).mono ?_; rintro e w' ⟨A3, c3, rfl, r3, rfl⟩))
  clear U2
  go_wp2_with (first
    | (go_at_call 31; refine (V1.out _ q).mono ?_; rintro e w' ⟨rfl, rfl⟩)
    | (go_at_call 32; refine (V2.out _ q).mono ?_; rintro e w' ⟨rfl, rfl⟩)
    | (go_at_call 33; refine (S1.out _ q).mono ?_; rintro e w' ⟨rfl, rfl⟩)
    | (go_at_call 34; refine (S2.out _ q).mono ?_; rintro e w' ⟨rfl, rfl⟩)
    | (go_at_call 21; (refine Calls.mono (bytesK _ _ _ _ _ _ x3 x3 _ r2 r3) ?_); rw [Cur.eqB_self]; rintro e w' ⟨rfl, rfl⟩))
  go_ret
  exact ⟨(by first | rfl | exact ret_bool (by simp)), bel⟩
end Go.Proofs.Ytjdnjmggpomhcaa
