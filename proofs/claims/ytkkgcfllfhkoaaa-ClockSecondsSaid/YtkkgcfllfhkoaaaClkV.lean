/- The walks of ClockSeconds and ClockCounts. -/
import Derived.Test.YtkkgcfllfhkoaaaClkR
import Derived.Test.YtkkgcfllfhkoaaaClkQ
import Derived.Test.YtkkgcfllfhkoaaaClkU
set_option linter.unusedSimpArgs false
set_option linter.unusedVariables false
namespace Go.Proofs.Ytkkgcfllfhkoaaa
open Go.RowKit Kit Clk

theorem Clk.box2 {w w1 : World} {o0 o1 : Obj} (hb : Below ((w.alloc o0).alloc o1).heap.size ((w.alloc o0).alloc o1) w1) :
    w1.heap[w.heap.size]? = some o0 ∧ w1.heap[w.heap.size + 1]? = some o1 ∧ Below w.heap.size w w1 := by
  refine ⟨(hb.block _ (by simp; omega)).trans (bk_old (bk_new rfl)), (hb.block _ (by simp)).trans (bk_new (by simp)), ?_⟩
  exact (((Below.refl _ _).alloc (Nat.le_refl _) _).alloc (by simp) _).trans (hb.mono (by simp; omega))
theorem Clk.on {w w1 : World} {b : Nat} {o : Obj} (t : w.heap[b]? = some o) (hb : Below w.heap.size w w1) : w1.heap[b]? = some o := (hb.block _ (Blk_lt t)).trans t

/-- the seconds, by the clock and by the reference -/
theorem Clk.secs_both (y m d h mi s : Int) : ∃ v k : Int, Hid (∀ w, Calls Try.prog 44 #[time y m d h mi s] w fun e w' => e = .returned (.tuple #[.int .i64 v, .int .i64 k]) ∧ Below w.heap.size w w') ∧
    Hid (∀ w, Calls Try.prog 45 #[time y m d h mi s] w fun e w' => e = .returned (.tuple #[.int .i64 v, .int .i64 k]) ∧ Below w.heap.size w w') ∧
    ((k = 0 ∧ validB y m d h mi s = true ∧ v = secs y m d h mi s) ∨ k = 8) := by
  cases hv : validB y m d h mi s
  · exact ⟨0, 8, Lib.hid (fun w => secs_bad w hv), Lib.hid (fun w => refsecs_bad w hv), .inr rfl⟩
  · exact ⟨secs y m d h mi s, 0, Lib.hid (fun w => secs_ok w hv), Lib.hid (fun w => refsecs_ok w hv), .inl ⟨rfl, rfl, rfl⟩⟩
theorem Clk.cmpT_bd (y m d h mi s y' m' d' h' mi' s' : Int) : -1 ≤ cmpT y m d h mi s y' m' d' h' mi' s' ∧ cmpT y m d h mi s y' m' d' h' mi' s' ≤ 1 := by
  have hc : ∀ a b, -1 ≤ cmpI a b ∧ cmpI a b ≤ 1 := fun a b => by rcases cmpI_cases a b with ⟨_, e⟩ | ⟨_, e⟩ | ⟨_, e⟩ <;> rw [e] <;> omega
  have ho : ∀ a b, -1 ≤ a ∧ a ≤ 1 → -1 ≤ b ∧ b ≤ 1 → -1 ≤ orI a b ∧ orI a b ≤ 1 := fun a b ha hb => by unfold orI; split <;> omega
  unfold cmpT
  exact ho _ _ (hc _ _) (ho _ _ (hc _ _) (ho _ _ (hc _ _) (ho _ _ (hc _ _) (ho _ _ (hc _ _) (hc _ _)))))

set_option maxRecDepth 100000 in
set_option maxHeartbeats 4000000 in
theorem ClockSeconds.walk (y m d h mi s y' m' d' h' mi' s' : Int) (W : World) :
    Calls Try.prog 11 #[time y m d h mi s, time y' m' d' h' mi' s'] W fun e w' => e = .returned (.bool true) ∧ Below W.heap.size W w' := by
  obtain ⟨va, ka, SA, RA, ha⟩ := secs_both y m d h mi s
  obtain ⟨vb, kb, SB, _, hb⟩ := secs_both y' m' d' h' mi' s'
  have C1 := Lib.hid (fun w => cmpT_any y m d h mi s y' m' d' h' mi' s' w)
  have C2 := Lib.hid (fun w => cmpT_any y' m' d' h' mi' s' y m d h mi s w)
  rw [cmpT_neg] at C2
  have C3 := Lib.hid (fun w => refcmpT_any y m d h mi s y' m' d' h' mi' s' w)
  obtain ⟨x, hx⟩ : ∃ x, cmpT y m d h mi s y' m' d' h' mi' s' = x := ⟨_, rfl⟩
  have hbx := cmpT_bd y m d h mi s y' m' d' h' mi' s'
  rw [hx] at C1 C2 C3 hbx
  obtain ⟨hx0, hx1⟩ := hbx
  have HX := Lib.hid hx
  have HA := Lib.hid ha
  have HB := Lib.hid hb
  clear hx ha hb
  have wn : IntKind.i64.wrap (-x) = -x := IntWalk.i64_in _ (by omega)
  go_enter Try.func11, Try.ntmps11
  go_upto_region 3 with (first | (go_at_call 13; refine (awake8_any _).mono ?_; rintro e w0 ⟨rfl, hb⟩))
  obtain ⟨t0, t1, bel⟩ := box2 hb
  clear hb
  obtain ⟨t0q0, t0q1, t0q2, t0q3, t0q4, t0q5⟩ := cells6 t0
  go_upto_region 4 with (first | (go_at_call 44; refine (SA.out _).mono ?_; rintro e w1 ⟨rfl, hb⟩))
  clear t0q0 t0q1 t0q2 t0q3 t0q4 t0q5
  replace t0 := Clk.on t0 hb
  replace t1 := Clk.on t1 hb
  replace bel := two_below bel hb bel.size
  clear hb
  obtain ⟨t0q0, t0q1, t0q2, t0q3, t0q4, t0q5⟩ := cells6 t0
  go_upto_region 5 with (first | (go_at_call 45; refine (RA.out _).mono ?_; rintro e w2 ⟨rfl, hb⟩))
  clear t0q0 t0q1 t0q2 t0q3 t0q4 t0q5
  replace t0 := Clk.on t0 hb
  replace t1 := Clk.on t1 hb
  replace bel := two_below bel hb bel.size
  clear hb
  obtain ⟨t1q0, t1q1, t1q2, t1q3, t1q4, t1q5⟩ := cells6 t1
  go_upto_region 6 with (first | (go_at_call 44; refine (SB.out _).mono ?_; rintro e w3 ⟨rfl, hb⟩))
  clear t1q0 t1q1 t1q2 t1q3 t1q4 t1q5
  replace t0 := Clk.on t0 hb
  replace t1 := Clk.on t1 hb
  replace bel := two_below bel hb bel.size
  clear hb
  obtain ⟨t0q0, t0q1, t0q2, t0q3, t0q4, t0q5⟩ := cells6 t0
  obtain ⟨t1q0, t1q1, t1q2, t1q3, t1q4, t1q5⟩ := cells6 t1
  go_upto_region 7 with (first | (go_at_call 46; refine (C1.out _).mono ?_; rintro e w4 ⟨rfl, hb⟩))
  clear t0q0 t0q1 t0q2 t0q3 t0q4 t0q5
  clear t1q0 t1q1 t1q2 t1q3 t1q4 t1q5
  replace t0 := Clk.on t0 hb
  replace t1 := Clk.on t1 hb
  replace bel := two_below bel hb bel.size
  clear hb
  clear SA RA SB
  rcases HA.out with ⟨hk, hva, hsa⟩ | hk
  · subst hk
    have FR := Lib.hid (fun w => fromSecs_ok (n := va) w (by have := secs_bd hva; omega) (by have := secs_bd hva; omega))
    have HVA := Lib.hid hva
    have HSA := Lib.hid hsa
    clear hva hsa HA
    obtain ⟨t0q0, t0q1, t0q2, t0q3, t0q4, t0q5⟩ := cells6 t0
    obtain ⟨t1q0, t1q1, t1q2, t1q3, t1q4, t1q5⟩ := cells6 t1
    go_upto_region 9 with (first | (go_at_call 47; with_reducible refine (C3.out _).mono ?_; rintro e wn ⟨rfl, hbn⟩; replace bel := two_below bel hbn bel.size; replace t0 := Clk.on t0 hbn; replace t1 := Clk.on t1 hbn; clear hbn; obtain ⟨n0, n1, n2, n3, n4, n5⟩ := cells6 t0; obtain ⟨o0, o1, o2, o3, o4, o5⟩ := cells6 t1) | (go_at_call 46; with_reducible refine (C2.out _).mono ?_; rintro e wn ⟨rfl, hbn⟩; replace bel := two_below bel hbn bel.size; replace t0 := Clk.on t0 hbn; replace t1 := Clk.on t1 hbn; clear hbn; obtain ⟨n0, n1, n2, n3, n4, n5⟩ := cells6 t0; obtain ⟨o0, o1, o2, o3, o4, o5⟩ := cells6 t1))
    clear t0q0 t0q1 t0q2 t0q3 t0q4 t0q5 t1q0 t1q1 t1q2 t1q3 t1q4 t1q5
    clear C1 C2 C3 t1
    go_upto_region 10 with (first | (go_at_call 48; refine (FR.out _).mono ?_; rintro e w7 ⟨u0, u1, u2, u3, u4, u5, rfl, hb, hv, hs⟩))
    obtain ⟨rfl, rfl, rfl, rfl, rfl, rfl⟩ := secs_inj hv HVA.out (by rw [hs, HSA.out])
    replace bel := bel_al bel hb (.cells #[.int .i64 u0, .int .i64 u1, .int .i64 u2, .int .i64 u3, .int .i64 u4, .int .i64 u5] 26)
    have t2 : (w7.alloc (.cells #[.int .i64 u0, .int .i64 u1, .int .i64 u2, .int .i64 u3, .int .i64 u4, .int .i64 u5] 26)).heap[w7.heap.size]? = _ := bk_new rfl
    replace t0 := bk_old (o' := .cells #[.int .i64 u0, .int .i64 u1, .int .i64 u2, .int .i64 u3, .int .i64 u4, .int .i64 u5] 26) (Clk.on t0 hb)
    clear hb hv hs FR
    generalize hg : w7.heap.size = b7 at *
    clear hg
    generalize w7.alloc (.cells #[.int .i64 u0, .int .i64 u1, .int .i64 u2, .int .i64 u3, .int .i64 u4, .int .i64 u5] 26) = w8 at *
    clear w7
    obtain ⟨r0, r1, r2, r3, r4, r5⟩ := cells6 t0
    obtain ⟨s0, s1, s2, s3, s4, s5⟩ := cells6 t2
    clear t0 t2
    rcases HB.out with ⟨hk, hvb, hsb⟩ | hk
    · subst hk
      have hxc : x = cmpI va vb := by rw [← HX.out, HSA.out, hsb, secs_cmp HVA.out hvb]
      clear hsb hvb
      rcases cmpI_cases va vb with ⟨c, e⟩ | ⟨c, e⟩ | ⟨c, e⟩
      all_goals
        rw [e] at hxc
        have hxe := hxc
        clear hxc e
        subst hxe
        clear HX HSA HVA HB
        go_wp2
        go_ret
        exact ⟨(by first | rfl | exact ret_bool (by simp; omega)), bel⟩
    · subst hk
      clear HX HSA HVA HB
      go_wp2
      go_ret
      exact ⟨(by first | rfl | exact ret_bool (by simp; omega)), bel⟩
  · subst hk
    clear HA HB HX
    obtain ⟨t0q0, t0q1, t0q2, t0q3, t0q4, t0q5⟩ := cells6 t0
    obtain ⟨t1q0, t1q1, t1q2, t1q3, t1q4, t1q5⟩ := cells6 t1
    go_wp2_with (first | (go_at_call 47; with_reducible refine (C3.out _).mono ?_; rintro e wn ⟨rfl, hbn⟩; replace bel := two_below bel hbn bel.size; replace t0 := Clk.on t0 hbn; replace t1 := Clk.on t1 hbn; clear hbn; obtain ⟨n0, n1, n2, n3, n4, n5⟩ := cells6 t0; obtain ⟨o0, o1, o2, o3, o4, o5⟩ := cells6 t1) | (go_at_call 46; with_reducible refine (C2.out _).mono ?_; rintro e wn ⟨rfl, hbn⟩; replace bel := two_below bel hbn bel.size; replace t0 := Clk.on t0 hbn; replace t1 := Clk.on t1 hbn; clear hbn; obtain ⟨n0, n1, n2, n3, n4, n5⟩ := cells6 t0; obtain ⟨o0, o1, o2, o3, o4, o5⟩ := cells6 t1))
    go_ret
    exact ⟨(by first | rfl | exact ret_bool (by simp; omega)), bel⟩
end Go.Proofs.Ytkkgcfllfhkoaaa
