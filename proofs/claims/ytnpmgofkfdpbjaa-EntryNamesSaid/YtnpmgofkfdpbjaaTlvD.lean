/- Walks: length octets, read by the reference. -/
import Derived.Test.YtnpmgofkfdpbjaaTlvC
import Derived.Test.YtnpmgofkfdpbjaaCurC
set_option linter.unusedSimpArgs false
set_option linter.unusedVariables false
namespace Go.Proofs.Ytnpmgofkfdpbjaa.Tlv
open Go.RowKit Kit

set_option maxRecDepth 100000 in
set_option maxHeartbeats 2000000 in
theorem refreadlen_any {A : Option Addr} {n c B : Nat} {l : List UInt8} (w : World) (hr : Rd w B A n l) (hB : B ≤ w.heap.size) (hc : n ≤ c) (hm : c ≤ maxLen) :
    Calls Try.prog 172 #[.slice A n c] w fun e w' => e = .returned (rlV (rl l)) ∧ Below w.heap.size w w' := by
  have hl := hr.len
  unfold maxLen at hm
  by_cases h0 : n = 0
  · have E := Lib.hid (rl_nil (hl.trans h0))
    rw [E.out]
    subst h0
    clear hr hl
    go_enter Try.func172, Try.ntmps172
    go_wp2
    refine bodyPost_ret (v := rlV (0, 0, 1, 0)) (by simp [results, Try.results172, go_sem, *]) rfl ?_
    exact ⟨rfl, (by repeat' (first | (with_reducible exact Below.refl _ _) | (with_reducible assumption) | (with_reducible refine below_drewN ?_ _) | (with_reducible refine Below.drew ?_) | (with_reducible refine Below.alloc ?_ ?_ _) | (with_reducible refine Below.setCell ?_ ?_ _) | go_size))⟩
  obtain ⟨ad, rfl, hab, hcell⟩ := hr.all_ (by omega)
  have c0 : w.cell? ad = some (.int .u8 (bt l 0)) := by
    have := hcell 0 (by omega)
    rwa [show ad.add 0 = ad from by unfold Addr.add; rw [if_pos rfl]] at this
  have hab' : ad.block < w.heap.size := by omega
  have b0 := bt_lo l 0
  have b1 := bt_hi l 0
  have h0' : ¬ (n : Int) = 0 := by omega
  by_cases h1 : bt l 0 < 128
  · have E := Lib.hid (rl_short (l := l) (by omega) h1)
    rw [E.out]
    generalize bt l 0 = b at *
    clear hr hl hcell
    go_enter Try.func172, Try.ntmps172
    go_wp2
    refine bodyPost_ret (v := rlV (b, 1, 0, 0)) (by simp [results, Try.results172, go_sem, *]) rfl ?_
    exact ⟨rfl, (by repeat' (first | (with_reducible exact Below.refl _ _) | (with_reducible assumption) | (with_reducible refine below_drewN ?_ _) | (with_reducible refine Below.drew ?_) | (with_reducible refine Below.alloc ?_ ?_ _) | (with_reducible refine Below.setCell ?_ ?_ _) | go_size))⟩
  by_cases h2 : bt l 0 = 128 ∨ 132 < bt l 0
  · have E := Lib.hid (rl_form (l := l) (by omega) h2)
    rw [E.out]
    clear hr hl hcell
    generalize bt l 0 = b at *
    have h2' : b = 128 ∨ (¬ b - 128 = 0 ∧ 5 ≤ b - 128) := by omega
    clear h2
    rcases h2' with rfl | ⟨h3, h4⟩
    all_goals
      go_enter Try.func172, Try.ntmps172
      go_wp2
      refine bodyPost_ret (v := rlV (0, 0, 4, 0)) (by simp [results, Try.results172, go_sem, *]) rfl ?_
      exact ⟨rfl, (by repeat' (first | (with_reducible exact Below.refl _ _) | (with_reducible assumption) | (with_reducible refine below_drewN ?_ _) | (with_reducible refine Below.drew ?_) | (with_reducible refine Below.alloc ?_ ?_ _) | (with_reducible refine Below.setCell ?_ ?_ _) | go_size))⟩
  obtain ⟨k, hk⟩ : ∃ k : Nat, bt l 0 = 128 + (k : Int) := ⟨(bt l 0 - 128).toNat, by omega⟩
  have k1 : 1 ≤ k := by omega
  have k4 : k ≤ 4 := by omega
  have h3 : ¬ (k : Int) = 0 := by omega
  have h4 : ¬ (5 : Int) ≤ (k : Int) := by omega
  have h4' : decide ((5 : Int) ≤ (k : Int)) = false := by rw [decide_eq_false_iff_not]; exact h4
  have ek : bt l 0 - 128 = (k : Int) := by omega
  by_cases h5 : n ≤ k
  · have E := Lib.hid (rl_cut (l := l) (by omega) hk k1 k4 (by omega))
    rw [E.out]
    clear hk h2 hr hcell
    subst hl
    generalize bt l 0 = b at *
    have h5' : (l.length : Int) < 1 + (k : Int) := by omega
    go_enter Try.func172, Try.ntmps172
    go_wp2
    refine bodyPost_ret (v := rlV (0, 0, 1, (l.length : Int))) (by simp [results, Try.results172, go_sem, *]) rfl ?_
    exact ⟨rfl, (by repeat' (first | (with_reducible exact Below.refl _ _) | (with_reducible assumption) | (with_reducible refine below_drewN ?_ _) | (with_reducible refine Below.drew ?_) | (with_reducible refine Below.alloc ?_ ?_ _) | (with_reducible refine Below.setCell ?_ ?_ _) | go_size))⟩
  have h5' : ¬ (n : Int) < 1 + (k : Int) := by omega
  obtain ⟨d, hd⟩ : ∃ d, (l.drop 1).take k = d := ⟨_, rfl⟩
  have hdl : d.length = k := by rw [← hd, List.length_take, List.length_drop]; omega
  have d256 : Cur.be d < 256 ^ 4 := Nat.lt_of_lt_of_le (Cur.be_lt d) (Nat.pow_le_pow_right (by omega) (by omega))
  have hcc : ¬ c = 1 := by omega
  have r1 := hr.cut (k := 1) (m := 1 + k) (cap := c) (by omega) (by omega) (by omega)
  rw [if_neg hcc, show 1 + k - 1 = k from by omega, hd] at r1
  have r1' : Rd w B (some ⟨ad.block, ad.off + 1, none⟩) k d := by rw [← add_one]; exact r1
  have r2 := hr.take (m := 1 + k) (by omega)
  have EB := Lib.hid (fun h => rl_bad (l := l) hk k1 k4 (by omega) h)
  have EO := Lib.hid (fun h => rl_ok (l := l) hk k1 k4 (by omega) h)
  have LI := Lib.hid (fun h => len_iff (l := l) hk k1 k4 (by omega) h)
  rw [hd] at EB EO LI
  have hu := (Cur.uint_yes (l := d) (Cur.be_lt8 (by omega))).1
  have UA := Lib.hid (fun (o : Obj) => Cur.refuint_any (some ⟨ad.block, ad.off + 1, none⟩) k (c - 1) d (w.alloc o) (r1'.alloc hB o) (by omega) (by unfold maxLen; omega))
  rw [hu] at UA
  have R2 := Lib.hid r2
  clear hk h2 hr hcell hd r1 r1' r2 hu
  generalize bt l 0 = b at *
  obtain ⟨v, hv⟩ : ∃ v, Cur.be d = v := ⟨_, rfl⟩
  rw [hv] at EB EO LI UA d256
  by_cases g3 : 2147483647 < v
  · have E := Lib.hid (EB.out (.inr (.inr g3)))
    have g3' : (2147483647 : Int) < (v : Int) := by omega
    clear EB EO LI
    go_enter Try.func172, Try.ntmps172
    go_wp2_with (first | (go_at_call 173; refine (UA.out _).mono ?_; rintro e w0 ⟨rfl, rfl⟩))
    refine bodyPost_ret (v := rlV (0, 0, 4, 0)) (by simp [results, Try.results172, go_sem, *]) rfl ?_
    exact ⟨by rw [E.out], (by repeat' (first | (with_reducible exact Below.refl _ _) | (with_reducible assumption) | (with_reducible refine below_drewN ?_ _) | (with_reducible refine Below.drew ?_) | (with_reducible refine Below.alloc ?_ ?_ _) | (with_reducible refine Below.setCell ?_ ?_ _) | go_size))⟩
  have LA := Lib.hid (fun w => reflength_any (v : Int) w)
  have g3' : ¬ (2147483647 : Int) < (v : Int) := by omega
  have g3'' : decide ((2147483647 : Int) < (v : Int)) = false := by rw [decide_eq_false_iff_not]; exact g3'
  have LB := len_bd (v : Int)
  have HI := Lib.hid (LI.out (by omega))
  obtain ⟨T, hT⟩ : ∃ T, l.take (1 + k) = T := ⟨_, rfl⟩
  rw [hT] at HI R2
  obtain ⟨L, hL⟩ : ∃ L, lenL (v : Int) = L := ⟨_, rfl⟩
  rw [hL] at HI LA LB
  have hcode : lenCode (v : Int) = 0 := by unfold lenCode; exact if_neg (by unfold lenBad; omega)
  rw [hcode] at LA
  obtain ⟨m, hm'⟩ : ∃ m, L.length = m := ⟨_, rfl⟩
  rw [hm'] at LA LB
  clear hT hL hcode hm' LI
  by_cases hz : L = T
  · have E := Lib.hid (EO.out (by have := HI.out.1 hz; omega))
    have HC := Lib.hid (Cur.cmpL_eq.2 hz)
    clear hz EB EO HI
    go_enter Try.func172, Try.ntmps172
    go_wp2_with (first | (go_at_call 173; refine (UA.out _).mono ?_; rintro e w0 ⟨rfl, rfl⟩) | (go_at_call 137; refine (LA.out _).mono ?_; rintro e w1 ⟨A1, c1, rfl, ho, hb⟩; obtain ⟨k0, k1', f0, f1, s1, hb1⟩ := two_new hb; have hrd1 := ho.rd; have hrd2 := ((R2.out.alloc hB (.cells #[.int .i64 0, .int .i64 0] 36)).more (by simp; omega)).past hb) | (go_at_call 174; refine (Cur.refcompare_any _ _ _ _ _ _ _ _ _ hrd1 hrd2 (by unfold maxLen; omega) (by unfold maxLen; omega)).mono ?_; rw [HC.out]; rintro e w2 ⟨rfl, q, rfl⟩))
    refine bodyPost_ret (v := rlV ((v : Int), 1 + (k : Int), 0, 0)) (by simp [results, Try.results172, go_sem, *]) rfl ?_
    exact ⟨by rw [E.out], (by repeat' (first | (with_reducible exact Below.refl _ _) | (with_reducible assumption) | (with_reducible refine below_drewN ?_ _) | (with_reducible refine Below.drew ?_) | (with_reducible refine Below.alloc ?_ ?_ _) | (with_reducible refine Below.setCell ?_ ?_ _) | go_size))⟩
  · have E := Lib.hid (EB.out (by
      by_cases hh : bt l 1 = 0 ∨ v < 128
      · omega
      · exact absurd (HI.out.2 hh) hz))
    obtain ⟨cv, hcv⟩ : ∃ cv, Cur.cmpL L T = cv := ⟨_, rfl⟩
    have hcz : ¬ cv = 0 := fun h => hz (Cur.cmpL_eq.1 (by rw [hcv]; exact h))
    have HC := Lib.hid hcv
    clear hz EB EO HI hcv
    go_enter Try.func172, Try.ntmps172
    go_wp2_with (first | (go_at_call 173; refine (UA.out _).mono ?_; rintro e w0 ⟨rfl, rfl⟩) | (go_at_call 137; refine (LA.out _).mono ?_; rintro e w1 ⟨A1, c1, rfl, ho, hb⟩; obtain ⟨k0, k1', f0, f1, s1, hb1⟩ := two_new hb; have hrd1 := ho.rd; have hrd2 := ((R2.out.alloc hB (.cells #[.int .i64 0, .int .i64 0] 36)).more (by simp; omega)).past hb) | (go_at_call 174; refine (Cur.refcompare_any _ _ _ _ _ _ _ _ _ hrd1 hrd2 (by unfold maxLen; omega) (by unfold maxLen; omega)).mono ?_; rw [HC.out]; rintro e w2 ⟨rfl, q, rfl⟩))
    refine bodyPost_ret (v := rlV (0, 0, 4, 0)) (by simp [results, Try.results172, go_sem, *]) rfl ?_
    exact ⟨by rw [E.out], (by repeat' (first | (with_reducible exact Below.refl _ _) | (with_reducible assumption) | (with_reducible refine below_drewN ?_ _) | (with_reducible refine Below.drew ?_) | (with_reducible refine Below.alloc ?_ ?_ _) | (with_reducible refine Below.setCell ?_ ?_ _) | go_size))⟩
end Go.Proofs.Ytnpmgofkfdpbjaa.Tlv
