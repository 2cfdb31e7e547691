/- Walks: headers, read by the reference. -/
import Derived.Test.YtnpmgofkfdpbjaaTlvE
set_option linter.unusedSimpArgs false
set_option linter.unusedVariables false
namespace Go.Proofs.Ytnpmgofkfdpbjaa.Tlv
open Go.RowKit Kit

set_option maxRecDepth 100000 in
set_option maxHeartbeats 2000000 in
theorem refreadhead_any {A : Option Addr} {n c B : Nat} {l : List UInt8} (w : World) (hr : Rd w B A n l) (hB : B ≤ w.heap.size) (hc : n ≤ c) (hm : c ≤ maxLen) (hn : n ≤ 140737488355328) :
    Calls Try.prog 170 #[.slice A n c] w fun e w' => e = .returned (rhV (rh l)) ∧ Below w.heap.size w w' := by
  have hl := hr.len
  by_cases h0 : n = 0
  · have E := Lib.hid (show rh l = (Hd.zero, 1, 0) from by unfold rh; rw [if_pos (hl.trans h0)])
    rw [E.out]
    subst h0
    clear hr hl
    go_enter Try.func170, Try.ntmps170
    go_wp2
    refine bodyPost_ret (v := .tuple #[.agg #[.int .i64 0, .int .i64 0, .bool false, .int .i64 0, .int .i64 0], err 1 0]) (by simp [results, Try.results170, go_sem, *]) rfl ?_
    exact ⟨rfl, (by repeat' (first | (with_reducible exact Below.refl _ _) | (with_reducible assumption) | (with_reducible refine below_drewN ?_ _) | (with_reducible refine Below.drew ?_) | (with_reducible refine Below.alloc ?_ ?_ _) | (with_reducible refine Below.setCell ?_ ?_ _) | go_size))⟩
  obtain ⟨ad, rfl, hab, hcell⟩ := hr.all_ (by omega)
  have c0 : w.cell? ad = some (.int .u8 (bt l 0)) := by
    have := hcell 0 (by omega)
    rwa [show ad.add 0 = ad from by unfold Addr.add; rw [if_pos rfl]] at this
  have hab' : ad.block < w.heap.size := by omega
  have hab2 : ad.block < w.heap.size + 1 := by omega
  have b0 := bt_lo l 0
  have b1 := bt_hi l 0
  have h0' : ¬ (n : Int) = 0 := by omega
  have RI := Lib.hid (fun w => refreadid_any (bt l 0) w b0 b1)
  by_cases hx : bt l 0 % 32 = 31
  · obtain ⟨e1, e2, e3, e4⟩ := rid_bad hx
    have E := Lib.hid (show rh l = (Hd.zero, 3, 0) from by unfold rh; rw [if_neg (by omega), if_pos (by rw [e4]; decide)])
    rw [E.out]
    rw [e1, e2, e3, e4] at RI
    clear hr hl hcell e1 e2 e3 e4 hx
    generalize bt l 0 = b at *
    go_enter Try.func170, Try.ntmps170
    go_wp2_with (go_at_call 171; refine (RI.out _).mono ?_; rintro e w' ⟨rfl, rfl⟩)
    refine bodyPost_ret (v := .tuple #[.agg #[.int .i64 0, .int .i64 0, .bool false, .int .i64 0, .int .i64 0], err 3 0]) (by simp [results, Try.results170, go_sem, *]) rfl ?_
    exact ⟨rfl, (by repeat' (first | (with_reducible exact Below.refl _ _) | (with_reducible assumption) | (with_reducible refine below_drewN ?_ _) | (with_reducible refine Below.drew ?_) | (with_reducible refine Below.alloc ?_ ?_ _) | (with_reducible refine Below.setCell ?_ ?_ _) | go_size))⟩
  have e4 := (rid_ok hx).2.2.2
  obtain ⟨T1, T2⟩ := tail_rd hr (by omega) hc
  have hrb := rl_bd (l.drop 1) (by rw [List.length_drop]; omega)
  have hdl : (l.drop 1).length ≤ 140737488355328 := by rw [List.length_drop]; omega
  have EB := Lib.hid (fun (h : (rl (l.drop 1)).2.2.1 ≠ 0) => show rh l = (Hd.zero, (rl (l.drop 1)).2.2.1, (rl (l.drop 1)).2.2.2 + 1) from by unfold rh; rw [if_neg (by omega), if_neg (by rw [e4]; simp), if_pos h])
  have EO := Lib.hid (fun (h : ¬ (rl (l.drop 1)).2.2.1 ≠ 0) => show rh l = (⟨ridC (bt l 0), ridN (bt l 0), ridB (bt l 0), (rl (l.drop 1)).1, 1 + (rl (l.drop 1)).2.1⟩, 0, 0) from by unfold rh; rw [if_neg (by omega), if_neg (by rw [e4]; simp), if_neg h])
  rw [e4] at RI
  have RL := Lib.hid (fun (A : Option Addr) (k c : Nat) (w' : World) (h : Rd w' B A k (l.drop 1)) (hB : B ≤ w'.heap.size) (hc : k ≤ c) (hm : c ≤ maxLen) => refreadlen_any (c := c) w' h hB hc hm)
  generalize rl (l.drop 1) = r at *
  obtain ⟨r1, r2, r3, r4⟩ := r
  simp only [rlV] at RL EB EO hrb
  have hm' := hm
  unfold maxLen at hm'
  have TP := Lib.hid T1
  have TN := Lib.hid T2
  clear T1 T2 hr hcell hx e4
  obtain ⟨ci, hci⟩ : ∃ x, ridC (bt l 0) = x := ⟨_, rfl⟩
  obtain ⟨ni, hni⟩ : ∃ x, ridN (bt l 0) = x := ⟨_, rfl⟩
  obtain ⟨bi, hbi⟩ : ∃ x, ridB (bt l 0) = x := ⟨_, rfl⟩
  rw [hci, hni, hbi] at EO
  rw [hci, hni, hbi] at RI
  clear hci hni hbi
  generalize bt l 0 = b at *
  go_enter Try.func170, Try.ntmps170
  go_upto_region 6 with (first | (go_at_call 171; refine (RI.out _).mono ?_; rintro e w' ⟨rfl, rfl⟩))
  by_cases hcc : c = 1
  · have RT := Lib.hid (TP.out hcc)
    clear TP TN
    obtain rfl : n = 1 := by omega
    subst hcc
    go_upto_region 7 with (first | (go_at_call 172; refine (RL.out _ _ _ _ (((RT.out).alloc hB _).alloc (by simp; omega) _) (by simp; omega) (by omega) (by unfold maxLen; omega)).mono ?_; rintro e w1 ⟨rfl, hb⟩))
    obtain ⟨t2, t3, bel⟩ := box2 hb
    have hs := hb.size
    simp only [World.size_alloc] at hs
    have t4 : (w1.alloc (.cells #[.int .i64 r3, .int .i64 r4] 36)).heap[w1.heap.size]? = _ := bk_new rfl
    replace t2 := bk_old (o' := .cells #[.int .i64 r3, .int .i64 r4] 36) t2
    replace t3 := bk_old (o' := .cells #[.int .i64 r3, .int .i64 r4] 36) t3
    replace bel := bel.alloc bel.size (.cells #[.int .i64 r3, .int .i64 r4] 36)
    have n1 : ¬ w1.heap.size = w.heap.size := by omega
    have n2 : ¬ w1.heap.size = w.heap.size + 1 := by omega
    have n3 : ¬ w.heap.size = w1.heap.size := by omega
    have n4 : ¬ w.heap.size + 1 = w1.heap.size := by omega
    have hwb : w.heap.size ≤ w1.heap.size := by omega
    clear hb hs RT
    generalize hg : w1.heap.size = b4 at *
    clear hg
    generalize w1.alloc (.cells #[.int .i64 r3, .int .i64 r4] 36) = w2 at *
    clear w1
    have T2 := Lib.hid t2
    have T3 := Lib.hid t3
    have T4 := Lib.hid t4
    obtain ⟨q0, q1, q2, q3, q4⟩ := cells5 t2
    obtain ⟨f0, f1, f2, f3, f4⟩ := free5 t2
    obtain ⟨s0, s1⟩ := cells2 t3
    obtain ⟨g0, g1, _, _, _⟩ := free5 t3
    obtain ⟨u0, u1⟩ := cells2 t4
    obtain ⟨h0, h1, _, _, _⟩ := free5 t4
    clear t2 t3 t4
    by_cases hz : r3 = 0
    · have E := Lib.hid (EO.out (fun h => h hz))
      subst hz
      go_wp2
      clear q0 q1 q2 q3 q4 f0 f1 f2 f3 f4 s0 s1 g0 g1 u0 u1 h0 h1
      have tc := cells5 (far2 (c := w.heap.size + 1) (set5 (.int .i64 ci) (.int .i64 ni) (.bool bi) (.int .i64 r1) (.int .i64 (1 + r2)) T2.out) (by omega) (.int .i64 0) (.int .i64 0))
      have td := cells2 (set2 (.int .i64 0) (.int .i64 0) (far5 (c := w.heap.size) T3.out (by omega) (.int .i64 ci) (.int .i64 ni) (.bool bi) (.int .i64 r1) (.int .i64 (1 + r2))))
      refine bodyPost_ret (v := .tuple #[.agg #[.int .i64 ci, .int .i64 ni, .bool bi, .int .i64 r1, .int .i64 (1 + r2)], err 0 0]) (by simp [results, Try.results170, go_sem, *]) rfl ?_
      exact ⟨by rw [E.out], (by repeat' (first | (with_reducible exact Below.refl _ _) | (with_reducible assumption) | (with_reducible refine below_drewN ?_ _) | (with_reducible refine Below.drew ?_) | (with_reducible refine Below.alloc ?_ ?_ _) | (with_reducible refine Below.setCell ?_ ?_ _) | go_size))⟩
    · have E := Lib.hid (EB.out hz)
      have wr4 : IntKind.i64.wrap (r4 + 1) = r4 + 1 := IntWalk.i64_in _ (by omega)
      go_upto_region 8 with fail
      go_region
      all_goals
        go_wp2
        clear q0 q1 q2 q3 q4 f0 f1 f2 f3 f4 s0 s1 g0 g1 u0 u1 h0 h1
        have tc := cells5 (far2 (c := w.heap.size + 1) (set5 (.int .i64 0) (.int .i64 0) (.bool false) (.int .i64 0) (.int .i64 0) T2.out) (by omega) (.int .i64 r3) (.int .i64 (r4 + 1)))
        have td := cells2 (set2 (.int .i64 r3) (.int .i64 (r4 + 1)) (far5 (c := w.heap.size) T3.out (by omega) (.int .i64 0) (.int .i64 0) (.bool false) (.int .i64 0) (.int .i64 0)))
        refine bodyPost_ret (v := .tuple #[.agg #[.int .i64 0, .int .i64 0, .bool false, .int .i64 0, .int .i64 0], err r3 (r4 + 1)]) (by simp [results, Try.results170, go_sem, *]) rfl ?_
        exact ⟨by rw [E.out]; rfl, (by repeat' (first | (with_reducible exact Below.refl _ _) | (with_reducible assumption) | (with_reducible refine below_drewN ?_ _) | (with_reducible refine Below.drew ?_) | (with_reducible refine Below.alloc ?_ ?_ _) | (with_reducible refine Below.setCell ?_ ?_ _) | go_size))⟩
  · have RT := Lib.hid (TN.out hcc)
    clear TP TN
    go_upto_region 7 with (first | (go_at_call 172; refine (RL.out _ _ _ _ (((RT.out).alloc hB _).alloc (by simp; omega) _) (by simp; omega) (by omega) (by unfold maxLen; omega)).mono ?_; rintro e w1 ⟨rfl, hb⟩))
    obtain ⟨t2, t3, bel⟩ := box2 hb
    have hs := hb.size
    simp only [World.size_alloc] at hs
    have t4 : (w1.alloc (.cells #[.int .i64 r3, .int .i64 r4] 36)).heap[w1.heap.size]? = _ := bk_new rfl
    replace t2 := bk_old (o' := .cells #[.int .i64 r3, .int .i64 r4] 36) t2
    replace t3 := bk_old (o' := .cells #[.int .i64 r3, .int .i64 r4] 36) t3
    replace bel := bel.alloc bel.size (.cells #[.int .i64 r3, .int .i64 r4] 36)
    have n1 : ¬ w1.heap.size = w.heap.size := by omega
    have n2 : ¬ w1.heap.size = w.heap.size + 1 := by omega
    have n3 : ¬ w.heap.size = w1.heap.size := by omega
    have n4 : ¬ w.heap.size + 1 = w1.heap.size := by omega
    have hwb : w.heap.size ≤ w1.heap.size := by omega
    clear hb hs RT
    generalize hg : w1.heap.size = b4 at *
    clear hg
    generalize w1.alloc (.cells #[.int .i64 r3, .int .i64 r4] 36) = w2 at *
    clear w1
    have T2 := Lib.hid t2
    have T3 := Lib.hid t3
    have T4 := Lib.hid t4
    obtain ⟨q0, q1, q2, q3, q4⟩ := cells5 t2
    obtain ⟨f0, f1, f2, f3, f4⟩ := free5 t2
    obtain ⟨s0, s1⟩ := cells2 t3
    obtain ⟨g0, g1, _, _, _⟩ := free5 t3
    obtain ⟨u0, u1⟩ := cells2 t4
    obtain ⟨h0, h1, _, _, _⟩ := free5 t4
    clear t2 t3 t4
    by_cases hz : r3 = 0
    · have E := Lib.hid (EO.out (fun h => h hz))
      subst hz
      go_wp2
      clear q0 q1 q2 q3 q4 f0 f1 f2 f3 f4 s0 s1 g0 g1 u0 u1 h0 h1
      have tc := cells5 (far2 (c := w.heap.size + 1) (set5 (.int .i64 ci) (.int .i64 ni) (.bool bi) (.int .i64 r1) (.int .i64 (1 + r2)) T2.out) (by omega) (.int .i64 0) (.int .i64 0))
      have td := cells2 (set2 (.int .i64 0) (.int .i64 0) (far5 (c := w.heap.size) T3.out (by omega) (.int .i64 ci) (.int .i64 ni) (.bool bi) (.int .i64 r1) (.int .i64 (1 + r2))))
      refine bodyPost_ret (v := .tuple #[.agg #[.int .i64 ci, .int .i64 ni, .bool bi, .int .i64 r1, .int .i64 (1 + r2)], err 0 0]) (by simp [results, Try.results170, go_sem, *]) rfl ?_
      exact ⟨by rw [E.out], (by repeat' (first | (with_reducible exact Below.refl _ _) | (with_reducible assumption) | (with_reducible refine below_drewN ?_ _) | (with_reducible refine Below.drew ?_) | (with_reducible refine Below.alloc ?_ ?_ _) | (with_reducible refine Below.setCell ?_ ?_ _) | go_size))⟩
    · have E := Lib.hid (EB.out hz)
      have wr4 : IntKind.i64.wrap (r4 + 1) = r4 + 1 := IntWalk.i64_in _ (by omega)
      go_upto_region 8 with fail
      go_region
      all_goals
        go_wp2
        clear q0 q1 q2 q3 q4 f0 f1 f2 f3 f4 s0 s1 g0 g1 u0 u1 h0 h1
        have tc := cells5 (far2 (c := w.heap.size + 1) (set5 (.int .i64 0) (.int .i64 0) (.bool false) (.int .i64 0) (.int .i64 0) T2.out) (by omega) (.int .i64 r3) (.int .i64 (r4 + 1)))
        have td := cells2 (set2 (.int .i64 r3) (.int .i64 (r4 + 1)) (far5 (c := w.heap.size) T3.out (by omega) (.int .i64 0) (.int .i64 0) (.bool false) (.int .i64 0) (.int .i64 0)))
        refine bodyPost_ret (v := .tuple #[.agg #[.int .i64 0, .int .i64 0, .bool false, .int .i64 0, .int .i64 0], err r3 (r4 + 1)]) (by simp [results, Try.results170, go_sem, *]) rfl ?_
        exact ⟨by rw [E.out]; rfl, (by repeat' (first | (with_reducible exact Below.refl _ _) | (with_reducible assumption) | (with_reducible refine below_drewN ?_ _) | (with_reducible refine Below.drew ?_) | (with_reducible refine Below.alloc ?_ ?_ _) | (with_reducible refine Below.setCell ?_ ?_ _) | go_size))⟩
end Go.Proofs.Ytnpmgofkfdpbjaa.Tlv
