/- Walks: the reference's DecodeUTC. -/
import Derived.Test.YtkkgcfllfhkoaaaClkK
import Derived.Test.YtkkgcfllfhkoaaaClkD
import Derived.Test.YtkkgcfllfhkoaaaCurA
set_option linter.unusedSimpArgs false
set_option linter.unusedVariables false
namespace Go.Proofs.Ytkkgcfllfhkoaaa.Clk
open Go.RowKit Kit Cur

set_option maxHeartbeats 2000000 in
theorem refdecUTC_raw {A : Option Addr} {n c : Nat} {l : List UInt8} (w : World) (hr : Rd w w.heap.size A n l) (hn : n ≤ 1000) :
    Calls Try.prog 25 #[.slice A n c] w fun e w' => e = .returned (if utcCode (ry2 l) (numF l 2 2) (numF l 4 2) (numF l 6 2) (numF l 8 2) (numF l 10 2) = 0 ∧ utcBytes (ry2 l) (numF l 2 2) (numF l 4 2) (numF l 6 2) (numF l 8 2) (numF l 10 2) = l then .tuple #[time (ry2 l) (numF l 2 2) (numF l 4 2) (numF l 6 2) (numF l 8 2) (numF l 10 2), .int .i64 0] else .tuple #[time 0 0 0 0 0 0, .int .i64 6]) ∧ Below w.heap.size w w' := by
  obtain ⟨v0, v1, v2, v3, v4, v5⟩ := numF_bd l 0 2 (by omega)
  have v3' := v3 (by omega)
  have HN := Lib.hid (fun (w' : World) (h : Rd w' w.heap.size A n l) => show Calls Try.prog 57 #[.slice A n c, .int .i64 0, .int .i64 2] w' fun e w'' => e = .returned (.int .i64 (numF l 0 2)) ∧ ∃ m, w'' = w'.drewN m from
    number_any (cp := c) 0 2 w' h (by omega) (by omega) hn)
  have HF := Lib.hid (fun (y : Int) (w' : World) (h : Rd w' w'.heap.size A n l) => show Calls Try.prog 58 #[.int .i64 y, .slice A n c, .int .i64 2] w' fun e w'' => e = .returned (time y (numF l 2 2) (numF l 4 2) (numF l 6 2) (numF l 8 2) (numF l 10 2)) ∧ Below w'.heap.size w' w'' from
    fields_any (cp := c) y 2 w' h (by omega) hn)
  have HR := Lib.hid (fun o => hr.alloc (Nat.le_refl _) o)
  have HR0 := Lib.hid hr
  have hry : ry2 l = if 1900 + numF l 0 2 < 1950 then 1900 + numF l 0 2 + 100 else 1900 + numF l 0 2 := rfl
  generalize ry2 l = y at *
  generalize numF l 0 2 = v at *
  generalize numF l 2 2 = m at *
  generalize numF l 4 2 = d at *
  generalize numF l 6 2 = h at *
  generalize numF l 8 2 = mi at *
  generalize numF l 10 2 = s at *
  clear hr v1 v2 v3 v4 v5
  have HE := Lib.hid (fun w => refencUTC_any y m d h mi s w)
  have hcase : (1900 + v < 1950 ∧ 1900 + v + 100 = y) ∨ (¬ 1900 + v < 1950 ∧ 1900 + v = y) := by
    rw [hry]; split
    · exact .inl ⟨by assumption, rfl⟩
    · exact .inr ⟨by assumption, rfl⟩
  clear hry
  by_cases hc0 : utcCode y m d h mi s = 0
  · by_cases hby : utcBytes y m d h mi s = l
    · rw [if_pos ⟨hc0, hby⟩]
      have HC := Lib.hid hc0
      have HB := Lib.hid (show eqB (utcBytes y m d h mi s) l = true from by rw [hby]; exact eqB_self l)
      clear hc0 hby
      rcases hcase with ⟨hlt', hy⟩ | ⟨hlt', hy⟩
      · have HY := Lib.hid hy
        clear hy
        go_enter Try.func25, Try.ntmps25
        go_upto_region 5 with (first | (go_at_call 57; refine (HN.out _ (HR.out _)).mono ?_; rintro e w1 ⟨rfl, m1, rfl⟩) | (go_at_call 58; refine (HF.out _ _ (((HR.out _).drewN _).more (by simp))).mono ?_; rintro e w1 ⟨rfl, hb1⟩))
        have hbw : Below w.heap.size w w1 := ((below_drewN (((Below.refl _ _).alloc (Nat.le_refl _) _)) _)).trans (hb1.mono (by simp))
        have tb0 : w1.heap[w.heap.size]? = some (.cells #[.int .i64 0, .int .i64 0, .int .i64 0, .int .i64 0, .int .i64 0, .int .i64 0] 26 (0, 0)) := (hb1.block _ (by simp)).trans (heap_alloc_new w _)
        clear hb1
        rw [HY.out]
        clear hlt'
        have tb := bk_old (o' := .cells #[.int .i64 y, .int .i64 m, .int .i64 d, .int .i64 h, .int .i64 mi, .int .i64 s] 26) tb0
        have tt : (w1.alloc (.cells #[.int .i64 y, .int .i64 m, .int .i64 d, .int .i64 h, .int .i64 mi, .int .i64 s] 26)).heap[w1.heap.size]? = _ := bk_new rfl
        have hb2 : Below w.heap.size w (w1.alloc (.cells #[.int .i64 y, .int .i64 m, .int .i64 d, .int .i64 h, .int .i64 mi, .int .i64 s] 26)) := hbw.alloc hbw.size _
        clear tb0 hbw
        generalize hg : w1.heap.size = b1 at *
        clear hg
        generalize w1.alloc (.cells #[.int .i64 y, .int .i64 m, .int .i64 d, .int .i64 h, .int .i64 mi, .int .i64 s] 26) = w2 at *
        clear w1 HN HF
        have HR2 := Lib.hid ((HR0.out.below hb2).more hb2.size)
        have TB := Lib.hid tb
        have TT := Lib.hid tt
        obtain ⟨t0, t1, t2, t3, t4, t5⟩ := cells6 tt
        clear tb tt
        go_wp2_with (first | (go_at_call 18; refine (HE.out _).mono ?_; rw [HC.out]; rintro e w3 ⟨A3, n3, c3, rfl, hr3, hb3⟩; obtain ⟨p0, p1, p2, p3, p4, p5⟩ := cells6 ((hb3.block _ (Blk_lt TT.out)).trans TT.out); have TB3 := Lib.hid ((hb3.block _ (Blk_lt TB.out)).trans TB.out); obtain ⟨f0, f1, f2, f3, f4, f5⟩ := free6 TB3.out; obtain ⟨z0, z1, z2, z3, z4, z5⟩ := cells6 TB3.out; have HR3 := Lib.hid hr3; clear hr3) | (go_at_call 21; refine (bytes_any _ _ _ _ _ _ _ _ _ HR3.out (HR2.out.past hb3)).mono ?_; rw [HB.out]; rintro e w4 ⟨rfl, rfl⟩))
        clear p0 p1 p2 p3 p4 p5 t0 t1 t2 t3 t4 t5 f0 f1 f2 f3 f4 f5 z0 z1 z2 z3 z4 z5
        have tc := cells6 (set6 (.int .i64 y) (.int .i64 m) (.int .i64 d) (.int .i64 h) (.int .i64 mi) (.int .i64 s) TB3.out)
        refine bodyPost_ret (v := .tuple #[time y m d h mi s, .int .i64 0]) (by simp [results, Try.results25, go_sem, *]) rfl ?_
        have hb4 := hb2.trans (hb3.mono hb2.size)
        exact ⟨rfl, (by repeat' (first | (with_reducible exact Below.refl _ _) | (with_reducible assumption) | (with_reducible refine below_drewN ?_ _) | (with_reducible refine Below.drew ?_) | (with_reducible refine Below.alloc ?_ ?_ _) | (with_reducible refine Below.setCell ?_ ?_ _) | go_size))⟩
      · have HY := Lib.hid hy
        clear hy
        go_enter Try.func25, Try.ntmps25
        go_upto_region 5 with (first | (go_at_call 57; refine (HN.out _ (HR.out _)).mono ?_; rintro e w1 ⟨rfl, m1, rfl⟩) | (go_at_call 58; refine (HF.out _ _ (((HR.out _).drewN _).more (by simp))).mono ?_; rintro e w1 ⟨rfl, hb1⟩))
        have hbw : Below w.heap.size w w1 := ((below_drewN (((Below.refl _ _).alloc (Nat.le_refl _) _)) _)).trans (hb1.mono (by simp))
        have tb0 : w1.heap[w.heap.size]? = some (.cells #[.int .i64 0, .int .i64 0, .int .i64 0, .int .i64 0, .int .i64 0, .int .i64 0] 26 (0, 0)) := (hb1.block _ (by simp)).trans (heap_alloc_new w _)
        clear hb1
        rw [HY.out]
        clear hlt'
        have tb := bk_old (o' := .cells #[.int .i64 y, .int .i64 m, .int .i64 d, .int .i64 h, .int .i64 mi, .int .i64 s] 26) tb0
        have tt : (w1.alloc (.cells #[.int .i64 y, .int .i64 m, .int .i64 d, .int .i64 h, .int .i64 mi, .int .i64 s] 26)).heap[w1.heap.size]? = _ := bk_new rfl
        have hb2 : Below w.heap.size w (w1.alloc (.cells #[.int .i64 y, .int .i64 m, .int .i64 d, .int .i64 h, .int .i64 mi, .int .i64 s] 26)) := hbw.alloc hbw.size _
        clear tb0 hbw
        generalize hg : w1.heap.size = b1 at *
        clear hg
        generalize w1.alloc (.cells #[.int .i64 y, .int .i64 m, .int .i64 d, .int .i64 h, .int .i64 mi, .int .i64 s] 26) = w2 at *
        clear w1 HN HF
        have HR2 := Lib.hid ((HR0.out.below hb2).more hb2.size)
        have TB := Lib.hid tb
        have TT := Lib.hid tt
        obtain ⟨t0, t1, t2, t3, t4, t5⟩ := cells6 tt
        clear tb tt
        go_wp2_with (first | (go_at_call 18; refine (HE.out _).mono ?_; rw [HC.out]; rintro e w3 ⟨A3, n3, c3, rfl, hr3, hb3⟩; obtain ⟨p0, p1, p2, p3, p4, p5⟩ := cells6 ((hb3.block _ (Blk_lt TT.out)).trans TT.out); have TB3 := Lib.hid ((hb3.block _ (Blk_lt TB.out)).trans TB.out); obtain ⟨f0, f1, f2, f3, f4, f5⟩ := free6 TB3.out; obtain ⟨z0, z1, z2, z3, z4, z5⟩ := cells6 TB3.out; have HR3 := Lib.hid hr3; clear hr3) | (go_at_call 21; refine (bytes_any _ _ _ _ _ _ _ _ _ HR3.out (HR2.out.past hb3)).mono ?_; rw [HB.out]; rintro e w4 ⟨rfl, rfl⟩))
        clear p0 p1 p2 p3 p4 p5 t0 t1 t2 t3 t4 t5 f0 f1 f2 f3 f4 f5 z0 z1 z2 z3 z4 z5
        have tc := cells6 (set6 (.int .i64 y) (.int .i64 m) (.int .i64 d) (.int .i64 h) (.int .i64 mi) (.int .i64 s) TB3.out)
        refine bodyPost_ret (v := .tuple #[time y m d h mi s, .int .i64 0]) (by simp [results, Try.results25, go_sem, *]) rfl ?_
        have hb4 := hb2.trans (hb3.mono hb2.size)
        exact ⟨rfl, (by repeat' (first | (with_reducible exact Below.refl _ _) | (with_reducible assumption) | (with_reducible refine below_drewN ?_ _) | (with_reducible refine Below.drew ?_) | (with_reducible refine Below.alloc ?_ ?_ _) | (with_reducible refine Below.setCell ?_ ?_ _) | go_size))⟩
    · rw [if_neg (fun x => hby x.2)]
      have HC := Lib.hid hc0
      have HB := Lib.hid (show eqB (utcBytes y m d h mi s) l = false from by unfold eqB; rw [decide_eq_false_iff_not]; exact hby)
      clear hc0 hby
      rcases hcase with ⟨hlt', hy⟩ | ⟨hlt', hy⟩
      · have HY := Lib.hid hy
        clear hy
        go_enter Try.func25, Try.ntmps25
        go_upto_region 5 with (first | (go_at_call 57; refine (HN.out _ (HR.out _)).mono ?_; rintro e w1 ⟨rfl, m1, rfl⟩) | (go_at_call 58; refine (HF.out _ _ (((HR.out _).drewN _).more (by simp))).mono ?_; rintro e w1 ⟨rfl, hb1⟩))
        have hbw : Below w.heap.size w w1 := ((below_drewN (((Below.refl _ _).alloc (Nat.le_refl _) _)) _)).trans (hb1.mono (by simp))
        have tb0 : w1.heap[w.heap.size]? = some (.cells #[.int .i64 0, .int .i64 0, .int .i64 0, .int .i64 0, .int .i64 0, .int .i64 0] 26 (0, 0)) := (hb1.block _ (by simp)).trans (heap_alloc_new w _)
        clear hb1
        rw [HY.out]
        clear hlt'
        have tb := bk_old (o' := .cells #[.int .i64 y, .int .i64 m, .int .i64 d, .int .i64 h, .int .i64 mi, .int .i64 s] 26) tb0
        have tt : (w1.alloc (.cells #[.int .i64 y, .int .i64 m, .int .i64 d, .int .i64 h, .int .i64 mi, .int .i64 s] 26)).heap[w1.heap.size]? = _ := bk_new rfl
        have hb2 : Below w.heap.size w (w1.alloc (.cells #[.int .i64 y, .int .i64 m, .int .i64 d, .int .i64 h, .int .i64 mi, .int .i64 s] 26)) := hbw.alloc hbw.size _
        clear tb0 hbw
        generalize hg : w1.heap.size = b1 at *
        clear hg
        generalize w1.alloc (.cells #[.int .i64 y, .int .i64 m, .int .i64 d, .int .i64 h, .int .i64 mi, .int .i64 s] 26) = w2 at *
        clear w1 HN HF
        have HR2 := Lib.hid ((HR0.out.below hb2).more hb2.size)
        have TB := Lib.hid tb
        have TT := Lib.hid tt
        obtain ⟨t0, t1, t2, t3, t4, t5⟩ := cells6 tt
        clear tb tt
        go_wp2_with (first | (go_at_call 18; refine (HE.out _).mono ?_; rw [HC.out]; rintro e w3 ⟨A3, n3, c3, rfl, hr3, hb3⟩; have TB3 := Lib.hid ((hb3.block _ (Blk_lt TB.out)).trans TB.out); obtain ⟨f0, f1, f2, f3, f4, f5⟩ := free6 TB3.out; obtain ⟨z0, z1, z2, z3, z4, z5⟩ := cells6 TB3.out; have HR3 := Lib.hid hr3; clear hr3) | (go_at_call 21; refine (bytes_any _ _ _ _ _ _ _ _ _ HR3.out (HR2.out.past hb3)).mono ?_; rw [HB.out]; rintro e w4 ⟨rfl, rfl⟩))
        clear t0 t1 t2 t3 t4 t5 f0 f1 f2 f3 f4 f5 z0 z1 z2 z3 z4 z5
        have tc := cells6 (set6 (.int .i64 0) (.int .i64 0) (.int .i64 0) (.int .i64 0) (.int .i64 0) (.int .i64 0) TB3.out)
        refine bodyPost_ret (v := .tuple #[time 0 0 0 0 0 0, .int .i64 6]) (by simp [results, Try.results25, go_sem, *]) rfl ?_
        have hb4 := hb2.trans (hb3.mono hb2.size)
        exact ⟨rfl, (by repeat' (first | (with_reducible exact Below.refl _ _) | (with_reducible assumption) | (with_reducible refine below_drewN ?_ _) | (with_reducible refine Below.drew ?_) | (with_reducible refine Below.alloc ?_ ?_ _) | (with_reducible refine Below.setCell ?_ ?_ _) | go_size))⟩
      · have HY := Lib.hid hy
        clear hy
        go_enter Try.func25, Try.ntmps25
        go_upto_region 5 with (first | (go_at_call 57; refine (HN.out _ (HR.out _)).mono ?_; rintro e w1 ⟨rfl, m1, rfl⟩) | (go_at_call 58; refine (HF.out _ _ (((HR.out _).drewN _).more (by simp))).mono ?_; rintro e w1 ⟨rfl, hb1⟩))
        have hbw : Below w.heap.size w w1 := ((below_drewN (((Below.refl _ _).alloc (Nat.le_refl _) _)) _)).trans (hb1.mono (by simp))
        have tb0 : w1.heap[w.heap.size]? = some (.cells #[.int .i64 0, .int .i64 0, .int .i64 0, .int .i64 0, .int .i64 0, .int .i64 0] 26 (0, 0)) := (hb1.block _ (by simp)).trans (heap_alloc_new w _)
        clear hb1
        rw [HY.out]
        clear hlt'
        have tb := bk_old (o' := .cells #[.int .i64 y, .int .i64 m, .int .i64 d, .int .i64 h, .int .i64 mi, .int .i64 s] 26) tb0
        have tt : (w1.alloc (.cells #[.int .i64 y, .int .i64 m, .int .i64 d, .int .i64 h, .int .i64 mi, .int .i64 s] 26)).heap[w1.heap.size]? = _ := bk_new rfl
        have hb2 : Below w.heap.size w (w1.alloc (.cells #[.int .i64 y, .int .i64 m, .int .i64 d, .int .i64 h, .int .i64 mi, .int .i64 s] 26)) := hbw.alloc hbw.size _
        clear tb0 hbw
        generalize hg : w1.heap.size = b1 at *
        clear hg
        generalize w1.alloc (.cells #[.int .i64 y, .int .i64 m, .int .i64 d, .int .i64 h, .int .i64 mi, .int .i64 s] 26) = w2 at *
        clear w1 HN HF
        have HR2 := Lib.hid ((HR0.out.below hb2).more hb2.size)
        have TB := Lib.hid tb
        have TT := Lib.hid tt
        obtain ⟨t0, t1, t2, t3, t4, t5⟩ := cells6 tt
        clear tb tt
        go_wp2_with (first | (go_at_call 18; refine (HE.out _).mono ?_; rw [HC.out]; rintro e w3 ⟨A3, n3, c3, rfl, hr3, hb3⟩; have TB3 := Lib.hid ((hb3.block _ (Blk_lt TB.out)).trans TB.out); obtain ⟨f0, f1, f2, f3, f4, f5⟩ := free6 TB3.out; obtain ⟨z0, z1, z2, z3, z4, z5⟩ := cells6 TB3.out; have HR3 := Lib.hid hr3; clear hr3) | (go_at_call 21; refine (bytes_any _ _ _ _ _ _ _ _ _ HR3.out (HR2.out.past hb3)).mono ?_; rw [HB.out]; rintro e w4 ⟨rfl, rfl⟩))
        clear t0 t1 t2 t3 t4 t5 f0 f1 f2 f3 f4 f5 z0 z1 z2 z3 z4 z5
        have tc := cells6 (set6 (.int .i64 0) (.int .i64 0) (.int .i64 0) (.int .i64 0) (.int .i64 0) (.int .i64 0) TB3.out)
        refine bodyPost_ret (v := .tuple #[time 0 0 0 0 0 0, .int .i64 6]) (by simp [results, Try.results25, go_sem, *]) rfl ?_
        have hb4 := hb2.trans (hb3.mono hb2.size)
        exact ⟨rfl, (by repeat' (first | (with_reducible exact Below.refl _ _) | (with_reducible assumption) | (with_reducible refine below_drewN ?_ _) | (with_reducible refine Below.drew ?_) | (with_reducible refine Below.alloc ?_ ?_ _) | (with_reducible refine Below.setCell ?_ ?_ _) | go_size))⟩
  · rw [if_neg (fun x => hc0 x.1)]
    generalize utcCode y m d h mi s = code at *
    rcases hcase with ⟨hlt', hy⟩ | ⟨hlt', hy⟩
    · have HY := Lib.hid hy
      clear hy
      go_enter Try.func25, Try.ntmps25
      go_upto_region 5 with (first | (go_at_call 57; refine (HN.out _ (HR.out _)).mono ?_; rintro e w1 ⟨rfl, m1, rfl⟩) | (go_at_call 58; refine (HF.out _ _ (((HR.out _).drewN _).more (by simp))).mono ?_; rintro e w1 ⟨rfl, hb1⟩))
      have hbw : Below w.heap.size w w1 := ((below_drewN (((Below.refl _ _).alloc (Nat.le_refl _) _)) _)).trans (hb1.mono (by simp))
      have tb0 : w1.heap[w.heap.size]? = some (.cells #[.int .i64 0, .int .i64 0, .int .i64 0, .int .i64 0, .int .i64 0, .int .i64 0] 26 (0, 0)) := (hb1.block _ (by simp)).trans (heap_alloc_new w _)
      clear hb1
      rw [HY.out]
      clear hlt'
      have tb := bk_old (o' := .cells #[.int .i64 y, .int .i64 m, .int .i64 d, .int .i64 h, .int .i64 mi, .int .i64 s] 26) tb0
      have tt : (w1.alloc (.cells #[.int .i64 y, .int .i64 m, .int .i64 d, .int .i64 h, .int .i64 mi, .int .i64 s] 26)).heap[w1.heap.size]? = _ := bk_new rfl
      have hb2 : Below w.heap.size w (w1.alloc (.cells #[.int .i64 y, .int .i64 m, .int .i64 d, .int .i64 h, .int .i64 mi, .int .i64 s] 26)) := hbw.alloc hbw.size _
      clear tb0 hbw
      generalize hg : w1.heap.size = b1 at *
      clear hg
      generalize w1.alloc (.cells #[.int .i64 y, .int .i64 m, .int .i64 d, .int .i64 h, .int .i64 mi, .int .i64 s] 26) = w2 at *
      clear w1 HN HF
      have HR2 := Lib.hid ((HR0.out.below hb2).more hb2.size)
      have TB := Lib.hid tb
      have TT := Lib.hid tt
      obtain ⟨t0, t1, t2, t3, t4, t5⟩ := cells6 tt
      clear tb tt
      go_wp2_with (first | (go_at_call 18; refine (HE.out _).mono ?_; rintro e w3 ⟨A3, n3, c3, rfl, hr3, hb3⟩; have TB3 := Lib.hid ((hb3.block _ (Blk_lt TB.out)).trans TB.out); obtain ⟨f0, f1, f2, f3, f4, f5⟩ := free6 TB3.out; obtain ⟨z0, z1, z2, z3, z4, z5⟩ := cells6 TB3.out; have HR3 := Lib.hid hr3; clear hr3))
      clear t0 t1 t2 t3 t4 t5 f0 f1 f2 f3 f4 f5 z0 z1 z2 z3 z4 z5
      have tc := cells6 (set6 (.int .i64 0) (.int .i64 0) (.int .i64 0) (.int .i64 0) (.int .i64 0) (.int .i64 0) TB3.out)
      refine bodyPost_ret (v := .tuple #[time 0 0 0 0 0 0, .int .i64 6]) (by simp [results, Try.results25, go_sem, *]) rfl ?_
      have hb4 := hb2.trans (hb3.mono hb2.size)
      exact ⟨rfl, (by repeat' (first | (with_reducible exact Below.refl _ _) | (with_reducible assumption) | (with_reducible refine below_drewN ?_ _) | (with_reducible refine Below.drew ?_) | (with_reducible refine Below.alloc ?_ ?_ _) | (with_reducible refine Below.setCell ?_ ?_ _) | go_size))⟩
    · have HY := Lib.hid hy
      clear hy
      go_enter Try.func25, Try.ntmps25
      go_upto_region 5 with (first | (go_at_call 57; refine (HN.out _ (HR.out _)).mono ?_; rintro e w1 ⟨rfl, m1, rfl⟩) | (go_at_call 58; refine (HF.out _ _ (((HR.out _).drewN _).more (by simp))).mono ?_; rintro e w1 ⟨rfl, hb1⟩))
      have hbw : Below w.heap.size w w1 := ((below_drewN (((Below.refl _ _).alloc (Nat.le_refl _) _)) _)).trans (hb1.mono (by simp))
      have tb0 : w1.heap[w.heap.size]? = some (.cells #[.int .i64 0, .int .i64 0, .int .i64 0, .int .i64 0, .int .i64 0, .int .i64 0] 26 (0, 0)) := (hb1.block _ (by simp)).trans (heap_alloc_new w _)
      clear hb1
      rw [HY.out]
      clear hlt'
      have tb := bk_old (o' := .cells #[.int .i64 y, .int .i64 m, .int .i64 d, .int .i64 h, .int .i64 mi, .int .i64 s] 26) tb0
      have tt : (w1.alloc (.cells #[.int .i64 y, .int .i64 m, .int .i64 d, .int .i64 h, .int .i64 mi, .int .i64 s] 26)).heap[w1.heap.size]? = _ := bk_new rfl
      have hb2 : Below w.heap.size w (w1.alloc (.cells #[.int .i64 y, .int .i64 m, .int .i64 d, .int .i64 h, .int .i64 mi, .int .i64 s] 26)) := hbw.alloc hbw.size _
      clear tb0 hbw
      generalize hg : w1.heap.size = b1 at *
      clear hg
      generalize w1.alloc (.cells #[.int .i64 y, .int .i64 m, .int .i64 d, .int .i64 h, .int .i64 mi, .int .i64 s] 26) = w2 at *
      clear w1 HN HF
      have HR2 := Lib.hid ((HR0.out.below hb2).more hb2.size)
      have TB := Lib.hid tb
      have TT := Lib.hid tt
      obtain ⟨t0, t1, t2, t3, t4, t5⟩ := cells6 tt
      clear tb tt
      go_wp2_with (first | (go_at_call 18; refine (HE.out _).mono ?_; rintro e w3 ⟨A3, n3, c3, rfl, hr3, hb3⟩; have TB3 := Lib.hid ((hb3.block _ (Blk_lt TB.out)).trans TB.out); obtain ⟨f0, f1, f2, f3, f4, f5⟩ := free6 TB3.out; obtain ⟨z0, z1, z2, z3, z4, z5⟩ := cells6 TB3.out; have HR3 := Lib.hid hr3; clear hr3))
      clear t0 t1 t2 t3 t4 t5 f0 f1 f2 f3 f4 f5 z0 z1 z2 z3 z4 z5
      have tc := cells6 (set6 (.int .i64 0) (.int .i64 0) (.int .i64 0) (.int .i64 0) (.int .i64 0) (.int .i64 0) TB3.out)
      refine bodyPost_ret (v := .tuple #[time 0 0 0 0 0 0, .int .i64 6]) (by simp [results, Try.results25, go_sem, *]) rfl ?_
      have hb4 := hb2.trans (hb3.mono hb2.size)
      exact ⟨rfl, (by repeat' (first | (with_reducible exact Below.refl _ _) | (with_reducible assumption) | (with_reducible refine below_drewN ?_ _) | (with_reducible refine Below.drew ?_) | (with_reducible refine Below.alloc ?_ ?_ _) | (with_reducible refine Below.setCell ?_ ?_ _) | go_size))⟩

theorem refdecUTC_ok {A : Option Addr} {n c : Nat} {l : List UInt8} (w : World) (hr : Rd w w.heap.size A n l) (hn : n ≤ 1000) (hok : okU l) :
    Calls Try.prog 25 #[.slice A n c] w fun e w' => e = .returned (.tuple #[time (yr2 l) (pr l 2) (pr l 4) (pr l 6) (pr l 8) (pr l 10), .int .i64 0]) ∧ Below w.heap.size w w' := by
  have := refdecUTC_raw (c := c) w hr hn
  rw [if_pos ((utc_iff l).2 hok), ry_yr hok.1, num_pr hok.1 (by omega), num_pr hok.1 (by omega), num_pr hok.1 (by omega), num_pr hok.1 (by omega), num_pr hok.1 (by omega)] at this
  exact this
theorem refdecUTC_no {A : Option Addr} {n c : Nat} {l : List UInt8} (w : World) (hr : Rd w w.heap.size A n l) (hn : n ≤ 1000) (hok : ¬ okU l) :
    Calls Try.prog 25 #[.slice A n c] w fun e w' => e = .returned (.tuple #[time 0 0 0 0 0 0, .int .i64 6]) ∧ Below w.heap.size w w' := by
  have := refdecUTC_raw (c := c) w hr hn
  rw [if_neg (fun x => hok ((utc_iff l).1 x))] at this
  exact this
end Go.Proofs.Ytkkgcfllfhkoaaa.Clk
