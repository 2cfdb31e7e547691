/- The walks of ValidityContains and ValidityTimes. -/
import Derived.Test.YtnpmgofkfdpbjaaKW
import Derived.Test.YtnpmgofkfdpbjaaKA
set_option linter.unusedSimpArgs false
set_option linter.unusedVariables false
namespace Go.Proofs.Ytnpmgofkfdpbjaa.Val
open Go.RowKit Kit Tlv Go.Sort

theorem lf_both {f t a : T6} (h : lfC t a = 0) (h2 : lfC a f = 0) : cts f t a = (decide (0 ≤ lfV t a) && decide (0 ≤ lfV a f)) := by
  unfold lfC at h h2
  by_cases ha : vB t = true ∧ vB a = true
  · by_cases hb : vB a = true ∧ vB f = true
    · have e1 : lfV t a = sc t - sc a := by unfold lfV; rw [if_pos ha]
      have e2 : lfV a f = sc a - sc f := by unfold lfV; rw [if_pos hb]
      unfold cts
      rw [ha.1, ha.2, hb.2, sc_cmp hb.2 ha.2, sc_cmp ha.2 ha.1, e1, e2]
      rcases Clk.cmpI_cases (sc f) (sc a) with ⟨c1, d1⟩ | ⟨c1, d1⟩ | ⟨c1, d1⟩ <;> rcases Clk.cmpI_cases (sc a) (sc t) with ⟨c2, d2⟩ | ⟨c2, d2⟩ | ⟨c2, d2⟩ <;> rw [d1, d2] <;>
        simp <;> omega
    · rw [if_neg hb] at h2; omega
  · rw [if_neg ha] at h; omega

set_option maxRecDepth 100000 in
set_option maxHeartbeats 2000000 in
theorem vc_walk (f t a : T6) (w : World) : Calls Try.prog 12 #[tv f, tv t, tv a] w fun e w' => e = .returned (.bool true) ∧ Below w.heap.size w w' := by
  have H := Lib.hid (fun h h2 => lf_both (f := f) (t := t) (a := a) h h2)
  have C1 := Lib.hid (fun w => contains_any f t a w)
  have C2 := Lib.hid (fun w => refcontains_any f t a w)
  have L1 := Lib.hid (fun w => left_any t a w)
  have L2 := Lib.hid (fun w => refleft_any t a w)
  have M1 := Lib.hid (fun w => left_any a f w)
  have M2 := Lib.hid (fun w => refleft_any a f w)
  generalize cts f t a = kin at *
  generalize lfV t a = v1 at *
  generalize lfC t a = c1 at *
  generalize lfV a f = v2 at *
  generalize lfC a f = c2 at *
  go_enter Try.func12, Try.ntmps12
  go_wp2_with fail
  go_must (go_fit (awake24_any _))
  rintro e w1 ⟨rfl, hb1⟩
  have hp1 := T3.past (T3.new w f t a) hb1
  have HP1 := Lib.hid hp1
  obtain ⟨p1, p2, p3, -⟩ := hp1
  obtain ⟨q0, q1, q2, q3, q4, q5⟩ := cells6 p1
  obtain ⟨r0, r1, r2, r3, r4, r5⟩ := cells6 p2
  obtain ⟨s0, s1, s2, s3, s4, s5⟩ := cells6 p3
  clear p1 p2 p3 hb1
  go_wp2_with fail
  go_must (go_fit (C1.out _))
  rintro e w2 ⟨rfl, hb2⟩
  have hp2 := T3.past HP1.out hb2
  clear q0 q1 q2 q3 q4 q5 r0 r1 r2 r3 r4 r5 s0 s1 s2 s3 s4 s5
  have HP2 := Lib.hid hp2
  obtain ⟨p1, p2, p3, -⟩ := hp2
  obtain ⟨q0, q1, q2, q3, q4, q5⟩ := cells6 p1
  obtain ⟨r0, r1, r2, r3, r4, r5⟩ := cells6 p2
  obtain ⟨s0, s1, s2, s3, s4, s5⟩ := cells6 p3
  clear p1 p2 p3 hb2
  go_wp2_with fail
  go_must (go_fit (L1.out _))
  rintro e w3 ⟨rfl, hb3⟩
  have hp3 := T3.past HP2.out hb3
  clear q0 q1 q2 q3 q4 q5 r0 r1 r2 r3 r4 r5 s0 s1 s2 s3 s4 s5
  have HP3 := Lib.hid hp3
  obtain ⟨p1, p2, p3, -⟩ := hp3
  obtain ⟨q0, q1, q2, q3, q4, q5⟩ := cells6 p1
  obtain ⟨r0, r1, r2, r3, r4, r5⟩ := cells6 p2
  obtain ⟨s0, s1, s2, s3, s4, s5⟩ := cells6 p3
  clear p1 p2 p3 hb3
  go_wp2_with fail
  go_must (go_fit (L2.out _))
  rintro e w4 ⟨rfl, hb4⟩
  have hp4 := T3.past HP3.out hb4
  clear q0 q1 q2 q3 q4 q5 r0 r1 r2 r3 r4 r5 s0 s1 s2 s3 s4 s5
  have HP4 := Lib.hid hp4
  obtain ⟨p1, p2, p3, -⟩ := hp4
  obtain ⟨q0, q1, q2, q3, q4, q5⟩ := cells6 p1
  obtain ⟨r0, r1, r2, r3, r4, r5⟩ := cells6 p2
  obtain ⟨s0, s1, s2, s3, s4, s5⟩ := cells6 p3
  clear p1 p2 p3 hb4
  go_wp2_with fail
  go_must (go_fit (M1.out _))
  rintro e w5 ⟨rfl, hb5⟩
  have hp5 := T3.past HP4.out hb5
  clear q0 q1 q2 q3 q4 q5 r0 r1 r2 r3 r4 r5 s0 s1 s2 s3 s4 s5
  have HP5 := Lib.hid hp5
  obtain ⟨p1, p2, p3, -⟩ := hp5
  obtain ⟨q0, q1, q2, q3, q4, q5⟩ := cells6 p1
  obtain ⟨r0, r1, r2, r3, r4, r5⟩ := cells6 p2
  obtain ⟨s0, s1, s2, s3, s4, s5⟩ := cells6 p3
  clear p1 p2 p3 hb5
  go_wp2_with fail
  go_must (go_fit (M2.out _))
  rintro e w6 ⟨rfl, hb6⟩
  have hp6 := T3.past HP5.out hb6
  clear q0 q1 q2 q3 q4 q5 r0 r1 r2 r3 r4 r5 s0 s1 s2 s3 s4 s5
  have HP6 := Lib.hid hp6
  obtain ⟨p1, p2, p3, -⟩ := hp6
  obtain ⟨q0, q1, q2, q3, q4, q5⟩ := cells6 p1
  obtain ⟨r0, r1, r2, r3, r4, r5⟩ := cells6 p2
  obtain ⟨s0, s1, s2, s3, s4, s5⟩ := cells6 p3
  clear p1 p2 p3 hb6
  go_upto_region 10 with (first | (go_at_call 59; go_must (go_fit (C2.out _)); rintro e w7 ⟨rfl, hb7⟩))
  have bel := (HP6.out.2.2.2).trans (hb7.mono HP6.out.2.2.2.size)
  clear q0 q1 q2 q3 q4 q5 r0 r1 r2 r3 r4 r5 s0 s1 s2 s3 s4 s5
  clear hb7
  by_cases h1 : c1 = 0
  · by_cases h2 : c2 = 0
    · have hk := H.out h1 h2
      subst h1 h2
      clear H
      by_cases g1 : 0 ≤ v1
      · by_cases g2 : 0 ≤ v2
        · obtain rfl : kin = true := by rw [hk]; simp [g1, g2]
          clear hk
          go_wp2
          go_ret
          exact ⟨by first | rfl | exact ret_bool (by simp [*]), bel⟩
        · obtain rfl : kin = false := by rw [hk]; simp [g2]
          clear hk
          go_wp2
          go_ret
          exact ⟨by first | rfl | exact ret_bool (by simp [*]), bel⟩
      · obtain rfl : kin = false := by rw [hk]; simp [g1]
        clear hk
        go_wp2
        go_ret
        exact ⟨by first | rfl | exact ret_bool (by simp [*]), bel⟩
    · clear H
      go_wp2
      go_ret
      exact ⟨by first | rfl | exact ret_bool (by simp [*]), bel⟩
  · clear H
    go_wp2
    go_ret
    exact ⟨by first | rfl | exact ret_bool (by simp [*]), bel⟩

/-- Parse of a time's encoding -/
theorem parseV_back {A : Option Addr} {n c B : Nat} {y m d h mi s : Int} (hv : valB y m d h mi s = true) (w : World) (hr : Rd w B A n (valL y m d h mi s)) (hB : B ≤ w.heap.size) (hc : n ≤ c) (hm : c ≤ maxLen) :
    Calls Try.prog 30 #[.slice A n c] w fun e w' => e = .returned (parR y m d h mi s 0 0) ∧ Below w.heap.size w w' := by
  have hl := hr.len
  have := val_len (y := y) (m := m) (d := d) (h := h) (mi := mi) (s := s)
  rcases parseV_any w hr hB hc hm (by omega) with ⟨y', m', d', h', mi', s', hv', e, hC⟩ | ⟨hno, _⟩
  · obtain ⟨rfl, rfl, rfl, rfl, rfl, rfl⟩ := val_inj hv hv' e
    exact hC
  · exact absurd rfl (hno _ _ _ _ _ _ hv)

set_option maxRecDepth 100000 in
set_option maxHeartbeats 2000000 in
theorem vt_walk (y m d h mi s : Int) (w : World) : Calls Try.prog 4 #[Clk.time y m d h mi s] w fun e w' => e = .returned (.bool true) ∧ Below w.heap.size w w' := by
  have M1 := Lib.hid (fun w => marshalV_any y m d h mi s w)
  have M2 := Lib.hid (fun w => refmarshalV_any y m d h mi s w)
  have V1 := Lib.hid (fun w => validV_any y m d h mi s w)
  have V2 := Lib.hid (fun w => refvalidV_any y m d h mi s w)
  have PA := Lib.hid (fun (A : Option Addr) (n c B : Nat) (hv : valB y m d h mi s = true) (X : World) (hr : Rd X B A n (valL y m d h mi s)) hB hc hm => parseV_back (c := c) hv X hr hB hc hm)
  have HC := Lib.hid (show valC y m d h mi s = 0 ∧ valB y m d h mi s = true ∨ valC y m d h mi s = 8 from by unfold valC; split <;> simp [*])
  have LL := Lib.hid (val_len (y := y) (m := m) (d := d) (h := h) (mi := mi) (s := s))
  generalize valL y m d h mi s = l at *
  generalize valC y m d h mi s = cd at *
  generalize valB y m d h mi s = vb at *
  go_enter Try.func4, Try.ntmps4
  go_wp2_with fail
  go_must (go_fit (awake24_any _))
  rintro e w0 ⟨rfl, hb0⟩
  have tb := blk1 hb0
  have bel := bel1 hb0
  clear hb0
  obtain ⟨q0, q1, q2, q3, q4, q5⟩ := cells6 tb
  go_wp2_with fail
  go_must (go_fit (M1.out _))
  rintro e w1 ⟨A1, c1, rfl, o1, hb1⟩
  clear q0 q1 q2 q3 q4 q5
  replace tb := stayK tb hb1
  replace bel := two_belowK bel hb1 bel.size
  have hc1 := Lib.hid o1.cap
  have hm1 := Lib.hid o1.capMax
  have r1 := o1.rd
  clear hb1 o1
  obtain ⟨q0, q1, q2, q3, q4, q5⟩ := cells6 tb
  go_wp2_with fail
  go_must (go_fit (M2.out _))
  rintro e w2 ⟨A2, c2, rfl, o2, hb2⟩
  clear q0 q1 q2 q3 q4 q5
  replace tb := stayK tb hb2
  replace bel := two_belowK bel hb2 bel.size
  replace r1 := r1.past hb2
  have r2 := o2.rd
  clear hb2 o2
  have X1 := Lib.hid (fun dd os => Cur.bytes_any A1 A2 l.length c1 l.length c2 _ _ _ (r1.regrown dd os) (r2.regrown dd os))
  rw [Cur.eqB_self] at X1
  obtain ⟨q0, q1, q2, q3, q4, q5⟩ := six_regrown (cells6 tb)
  have R1 := Lib.hid r1
  have R2 := Lib.hid r2
  clear r1 r2
  by_cases hcd : cd = 0
  · have hvb : vb = true := by rcases HC.out with ⟨_, h⟩ | h; exact h; omega
    subst hcd hvb
    go_upto_region 5 with fail
    refine wp_region_quiet_below (by kernel_rfl) (by kernel_rfl) ?_; (repeat (go_big_quiet_step (first | (go_at_call 27; exact regrown_same (X1.out _ _)) | (go_at_call 28; exact Calls.regrown_of (V1.out _)) | (go_at_call 29; exact Calls.regrown_of (V2.out _))))); refine wpQuiet_nil ?_; intro wq hq; replace hq := Kit.of_regrown hq
    clear q0 q1 q2 q3 q4 q5
    replace tb := stayK tb hq
    replace bel := two_belowK bel hq bel.size
    have r1 := R1.out.past hq
    clear hq
    have PP := Lib.hid (PA.out A1 l.length c1 _ (by simp) wq r1 (Nat.le_refl _) hc1.out hm1.out)
    clear r1
    go_wp2_with fail
    go_must (go_fit PP.out)
    rintro e w3 ⟨rfl, hb3⟩
    replace tb := stayK tb hb3
    replace bel := two_belowK bel hb3 bel.size
    have z3 := Blk_lt tb
    obtain ⟨q0, q1, q2, q3, q4, q5⟩ := cells6 tb
    clear tb hb3
    go_wp2
    go_ret
    exact ⟨by first | rfl | exact ret_bool (by simp [*]), (by repeat' (first | (with_reducible exact Below.refl _ _) | (with_reducible assumption) | (with_reducible refine below_drewN ?_ _) | (with_reducible refine Below.drew ?_) | (with_reducible refine Below.alloc ?_ ?_ _) | (with_reducible refine Below.setCell ?_ ?_ _) | go_size))⟩
  · have hne : ¬ cd = 0 := hcd
    go_upto_region 5 with fail
    refine wp_region_quiet_below (by kernel_rfl) (by kernel_rfl) ?_; (repeat (go_big_quiet_step (first | (go_at_call 27; exact regrown_same (X1.out _ _)) | (go_at_call 28; exact Calls.regrown_of (V1.out _)) | (go_at_call 29; exact Calls.regrown_of (V2.out _))))); refine wpQuiet_nil ?_; intro wq hq; replace hq := Kit.of_regrown hq
    clear q0 q1 q2 q3 q4 q5
    replace tb := stayK tb hq
    replace bel := two_belowK bel hq bel.size
    have r1 := R1.out.past hq
    have r2 := R2.out.past hq
    clear hq X1
    have X1 := Lib.hid (fun dd os => Cur.bytes_any A1 A2 l.length c1 l.length c2 _ _ _ (r1.regrown dd os) (r2.regrown dd os))
    rw [Cur.eqB_self] at X1
    obtain ⟨q0, q1, q2, q3, q4, q5⟩ := six_regrown (cells6 tb)
    clear r1 r2
    go_upto_region 6 with fail
    refine wp_region_quiet_below (by kernel_rfl) (by kernel_rfl) ?_; (repeat (go_big_quiet_step (first | (go_at_call 27; exact regrown_same (X1.out _ _)) | (go_at_call 28; exact Calls.regrown_of (V1.out _)) | (go_at_call 29; exact Calls.regrown_of (V2.out _))))); refine wpQuiet_nil ?_; intro wq hq; replace hq := Kit.of_regrown hq
    clear q0 q1 q2 q3 q4 q5
    go_wp2
    go_ret
    exact ⟨by first | rfl | exact ret_bool (by simp [*]), two_belowK bel hq bel.size⟩
end Go.Proofs.Ytnpmgofkfdpbjaa.Val
namespace Go.Proofs.Ytnpmgofkfdpbjaa
open Go.RowKit
theorem ValidityContains.walk (y m d h mi s y' m' d' h' mi' s' y2 m2 d2 h2 mi2 s2 : Int) (W : World) :
    Calls Try.prog 12 #[Clk.time y m d h mi s, Clk.time y' m' d' h' mi' s', Clk.time y2 m2 d2 h2 mi2 s2] W fun e w' => e = .returned (.bool true) ∧ Below W.heap.size W w' :=
  Val.vc_walk ⟨y, m, d, h, mi, s⟩ ⟨y', m', d', h', mi', s'⟩ ⟨y2, m2, d2, h2, mi2, s2⟩ W
theorem ValidityTimes.walk (y m d h mi s : Int) (W : World) : Calls Try.prog 4 #[Clk.time y m d h mi s] W fun e w' => e = .returned (.bool true) ∧ Below W.heap.size W w' :=
  Val.vt_walk y m d h mi s W
end Go.Proofs.Ytnpmgofkfdpbjaa
