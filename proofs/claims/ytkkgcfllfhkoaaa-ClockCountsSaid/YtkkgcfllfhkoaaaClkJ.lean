/- Walks: the clock's DecodeUTC and DecodeGeneral. -/
import Derived.Test.YtkkgcfllfhkoaaaClkH
import Derived.Test.YtkkgcfllfhkoaaaClkI
set_option linter.unusedSimpArgs false
set_option linter.unusedVariables false
namespace Go.Proofs.Ytkkgcfllfhkoaaa.Clk
open Go.RowKit Kit

/-- six cells of a block stored over -/
theorem set6 {w : World} {b : Nat} {x0 x1 x2 x3 x4 x5 : Value} {t : TypeId} (y0 y1 y2 y3 y4 y5 : Value) (h : w.heap[b]? = some (.cells #[x0, x1, x2, x3, x4, x5] t (0, 0))) :
    ((((((w.setCell ⟨b, 0, none⟩ y0).setCell ⟨b, 1, none⟩ y1).setCell ⟨b, 2, none⟩ y2).setCell ⟨b, 3, none⟩ y3).setCell ⟨b, 4, none⟩ y4).setCell ⟨b, 5, none⟩ y5).heap[b]? = some (.cells #[y0, y1, y2, y3, y4, y5] t (0, 0)) :=
  heap_setCell_same _ b 5 _ _ y5 (heap_setCell_same _ b 4 _ _ y4 (heap_setCell_same _ b 3 _ _ y3 (heap_setCell_same _ b 2 _ _ y2 (heap_setCell_same _ b 1 _ _ y1 (heap_setCell_same _ b 0 _ _ y0 h)))))
theorem free6 {w : World} {b : Nat} {cs : Array Value} {t : TypeId} (h : w.heap[b]? = some (.cells cs t (0, 0))) :
    w.frozen? ⟨b, 0, none⟩ = false ∧ w.frozen? ⟨b, 1, none⟩ = false ∧ w.frozen? ⟨b, 2, none⟩ = false ∧ w.frozen? ⟨b, 3, none⟩ = false ∧ w.frozen? ⟨b, 4, none⟩ = false ∧ w.frozen? ⟨b, 5, none⟩ = false :=
  ⟨frozen_of_row w b 0 _ _ h, frozen_of_row w b 1 _ _ h, frozen_of_row w b 2 _ _ h, frozen_of_row w b 3 _ _ h, frozen_of_row w b 4 _ _ h, frozen_of_row w b 5 _ _ h⟩

set_option maxHeartbeats 1000000 in
theorem decUTC_ok {A : Option Addr} {n c : Nat} {l : List UInt8} (w : World) (hr : Rd w w.heap.size A n l) (hc : n ≤ c) (hok : okU l) :
    Calls Try.prog 23 #[.slice A n c] w fun e w' => e = .returned (.tuple #[time (yr2 l) (pr l 2) (pr l 4) (pr l 6) (pr l 8) (pr l 10), .int .i64 0]) ∧ Below w.heap.size w w' := by
  obtain ⟨h1, h2⟩ := hok
  have D := Lib.hid (fun w => decode2_ok (c := c) (A := A) (n := n) (l := l) w)
  have HR := Lib.hid hr
  have H1 := Lib.hid h1
  have H2 := Lib.hid h2
  clear h1 h2 hr
  go_enter Try.func23, Try.ntmps23
  go_upto_region 2 with (first | (go_at_call 56; refine (D.out _ ((HR.out.alloc (Nat.le_refl _) _).more (by simp)) hc H1.out).mono ?_; rw [H2.out]; rintro e w1 ⟨rfl, hb1⟩))
  have hb2 : Below w.heap.size w (w1.alloc (.cells #[.int .i64 (yr2 l), .int .i64 (pr l 2), .int .i64 (pr l 4), .int .i64 (pr l 6), .int .i64 (pr l 8), .int .i64 (pr l 10)] 26)) := by
    have hb := bel1 hb1
    have hz := hb.size
    exact hb.alloc hz _
  have tb := bk_old (o' := .cells #[.int .i64 (yr2 l), .int .i64 (pr l 2), .int .i64 (pr l 4), .int .i64 (pr l 6), .int .i64 (pr l 8), .int .i64 (pr l 10)] 26) (blk1 hb1)
  have tt : (w1.alloc (.cells #[.int .i64 (yr2 l), .int .i64 (pr l 2), .int .i64 (pr l 4), .int .i64 (pr l 6), .int .i64 (pr l 8), .int .i64 (pr l 10)] 26)).heap[w1.heap.size]? = _ := bk_new rfl
  clear hb1
  generalize hg : w1.heap.size = b1 at *
  clear hg
  generalize w1.alloc (.cells #[.int .i64 (yr2 l), .int .i64 (pr l 2), .int .i64 (pr l 4), .int .i64 (pr l 6), .int .i64 (pr l 8), .int .i64 (pr l 10)] 26) = w2 at *
  clear w1
  obtain ⟨q0, q1, q2, q3, q4, q5⟩ := cells6 tb
  obtain ⟨f0, f1, f2, f3, f4, f5⟩ := free6 tb
  obtain ⟨t0, t1, t2, t3, t4, t5⟩ := cells6 tt
  go_wp2
  clear q0 q1 q2 q3 q4 q5 f0 f1 f2 f3 f4 f5 t0 t1 t2 t3 t4 t5
  have tc := cells6 (set6 (.int .i64 (yr2 l)) (.int .i64 (pr l 2)) (.int .i64 (pr l 4)) (.int .i64 (pr l 6)) (.int .i64 (pr l 8)) (.int .i64 (pr l 10)) tb)
  refine bodyPost_ret (v := .tuple #[time (yr2 l) (pr l 2) (pr l 4) (pr l 6) (pr l 8) (pr l 10), .int .i64 0]) (by simp [results, Try.results23, go_sem, *]) rfl ?_
  exact ⟨rfl, (by repeat' (first | (with_reducible exact Below.refl _ _) | (with_reducible assumption) | (with_reducible refine below_drewN ?_ _) | (with_reducible refine Below.drew ?_) | (with_reducible refine Below.alloc ?_ ?_ _) | (with_reducible refine Below.setCell ?_ ?_ _) | go_size))⟩

set_option maxHeartbeats 1000000 in
theorem decUTC_no {A : Option Addr} {n c : Nat} {l : List UInt8} (w : World) (hr : Rd w w.heap.size A n l) (hc : n ≤ c) (hn : n ≤ 1000) (hok : ¬ okU l) :
    Calls Try.prog 23 #[.slice A n c] w fun e w' => e = .returned (.tuple #[time 0 0 0 0 0 0, .int .i64 6]) ∧ Below w.heap.size w w' := by
  obtain ⟨v, HD⟩ : ∃ v, Hid (∀ w, Rd w w.heap.size A n l → Calls Try.prog 56 #[.slice A n c, .int .i64 2] w fun e w' => e = .returned (.tuple #[v, .bool false]) ∧ Below w.heap.size w w' ∧ ∃ y m d h mi s, v = time y m d h mi s) := by
    by_cases hC : okC 2 l
    · cases hv : validB (yr2 l) (pr l 2) (pr l 4) (pr l 6) (pr l 8) (pr l 10)
      · refine ⟨time (yr2 l) (pr l 2) (pr l 4) (pr l 6) (pr l 8) (pr l 10), Lib.hid (fun w hr => (decode2_ok (c := c) (A := A) (n := n) (l := l) w hr hc hC).mono ?_)⟩
        rw [hv]
        rintro e w' ⟨rfl, hb⟩
        exact ⟨rfl, hb, _, _, _, _, _, _, rfl⟩
      · exact absurd ⟨hC, hv⟩ hok
    · refine ⟨time 0 0 0 0 0 0, Lib.hid (fun w hr => (decode_no (c := c) (A := A) (n := n) (l := l) (dg := 2) w hr (Nat.le_refl _) hn hc (by omega) hC).mono ?_)⟩
      rintro e w' ⟨rfl, hb⟩
      exact ⟨rfl, hb, _, _, _, _, _, _, rfl⟩
  have HR := Lib.hid hr
  clear hok hr
  go_enter Try.func23, Try.ntmps23
  go_upto_region 2 with (first | (go_at_call 56; refine (HD.out _ ((HR.out.alloc (Nat.le_refl _) _).more (by simp))).mono ?_; rintro e w1 ⟨rfl, hb1, y, m, d, h, mi, s, rfl⟩))
  have hb2 : Below w.heap.size w (w1.alloc (.cells #[.int .i64 y, .int .i64 m, .int .i64 d, .int .i64 h, .int .i64 mi, .int .i64 s] 26)) := by
    have hb := bel1 hb1
    have hz := hb.size
    exact hb.alloc hz _
  have tb := bk_old (o' := .cells #[.int .i64 y, .int .i64 m, .int .i64 d, .int .i64 h, .int .i64 mi, .int .i64 s] 26) (blk1 hb1)
  have tt : (w1.alloc (.cells #[.int .i64 y, .int .i64 m, .int .i64 d, .int .i64 h, .int .i64 mi, .int .i64 s] 26)).heap[w1.heap.size]? = _ := bk_new rfl
  clear hb1
  generalize hg : w1.heap.size = b1 at *
  clear hg
  generalize w1.alloc (.cells #[.int .i64 y, .int .i64 m, .int .i64 d, .int .i64 h, .int .i64 mi, .int .i64 s] 26) = w2 at *
  clear w1
  obtain ⟨q0, q1, q2, q3, q4, q5⟩ := cells6 tb
  obtain ⟨f0, f1, f2, f3, f4, f5⟩ := free6 tb
  obtain ⟨t0, t1, t2, t3, t4, t5⟩ := cells6 tt
  go_wp2
  clear q0 q1 q2 q3 q4 q5 f0 f1 f2 f3 f4 f5 t0 t1 t2 t3 t4 t5
  have tc := cells6 (set6 (.int .i64 0) (.int .i64 0) (.int .i64 0) (.int .i64 0) (.int .i64 0) (.int .i64 0) tb)
  refine bodyPost_ret (v := .tuple #[time 0 0 0 0 0 0, .int .i64 6]) (by simp [results, Try.results23, go_sem, *]) rfl ?_
  exact ⟨rfl, (by repeat' (first | (with_reducible exact Below.refl _ _) | (with_reducible assumption) | (with_reducible refine below_drewN ?_ _) | (with_reducible refine Below.drew ?_) | (with_reducible refine Below.alloc ?_ ?_ _) | (with_reducible refine Below.setCell ?_ ?_ _) | go_size))⟩

set_option maxHeartbeats 1000000 in
theorem decGen_ok {A : Option Addr} {n c : Nat} {l : List UInt8} (w : World) (hr : Rd w w.heap.size A n l) (hc : n ≤ c) (hok : okG l) :
    Calls Try.prog 24 #[.slice A n c] w fun e w' => e = .returned (.tuple #[time (yr4 l) (pr l 4) (pr l 6) (pr l 8) (pr l 10) (pr l 12), .int .i64 0]) ∧ Below w.heap.size w w' := by
  obtain ⟨h1, h2⟩ := hok
  have D := Lib.hid (fun w => decode4_ok (c := c) (A := A) (n := n) (l := l) w)
  have HR := Lib.hid hr
  have H1 := Lib.hid h1
  have H2 := Lib.hid h2
  clear h1 h2 hr
  go_enter Try.func24, Try.ntmps24
  go_upto_region 2 with (first | (go_at_call 56; refine (D.out _ ((HR.out.alloc (Nat.le_refl _) _).more (by simp)) hc H1.out).mono ?_; rw [H2.out]; rintro e w1 ⟨rfl, hb1⟩))
  have hb2 : Below w.heap.size w (w1.alloc (.cells #[.int .i64 (yr4 l), .int .i64 (pr l 4), .int .i64 (pr l 6), .int .i64 (pr l 8), .int .i64 (pr l 10), .int .i64 (pr l 12)] 26)) := by
    have hb := bel1 hb1
    have hz := hb.size
    exact hb.alloc hz _
  have tb := bk_old (o' := .cells #[.int .i64 (yr4 l), .int .i64 (pr l 4), .int .i64 (pr l 6), .int .i64 (pr l 8), .int .i64 (pr l 10), .int .i64 (pr l 12)] 26) (blk1 hb1)
  have tt : (w1.alloc (.cells #[.int .i64 (yr4 l), .int .i64 (pr l 4), .int .i64 (pr l 6), .int .i64 (pr l 8), .int .i64 (pr l 10), .int .i64 (pr l 12)] 26)).heap[w1.heap.size]? = _ := bk_new rfl
  clear hb1
  generalize hg : w1.heap.size = b1 at *
  clear hg
  generalize w1.alloc (.cells #[.int .i64 (yr4 l), .int .i64 (pr l 4), .int .i64 (pr l 6), .int .i64 (pr l 8), .int .i64 (pr l 10), .int .i64 (pr l 12)] 26) = w2 at *
  clear w1
  obtain ⟨q0, q1, q2, q3, q4, q5⟩ := cells6 tb
  obtain ⟨f0, f1, f2, f3, f4, f5⟩ := free6 tb
  obtain ⟨t0, t1, t2, t3, t4, t5⟩ := cells6 tt
  go_wp2
  clear q0 q1 q2 q3 q4 q5 f0 f1 f2 f3 f4 f5 t0 t1 t2 t3 t4 t5
  have tc := cells6 (set6 (.int .i64 (yr4 l)) (.int .i64 (pr l 4)) (.int .i64 (pr l 6)) (.int .i64 (pr l 8)) (.int .i64 (pr l 10)) (.int .i64 (pr l 12)) tb)
  refine bodyPost_ret (v := .tuple #[time (yr4 l) (pr l 4) (pr l 6) (pr l 8) (pr l 10) (pr l 12), .int .i64 0]) (by simp [results, Try.results24, go_sem, *]) rfl ?_
  exact ⟨rfl, (by repeat' (first | (with_reducible exact Below.refl _ _) | (with_reducible assumption) | (with_reducible refine below_drewN ?_ _) | (with_reducible refine Below.drew ?_) | (with_reducible refine Below.alloc ?_ ?_ _) | (with_reducible refine Below.setCell ?_ ?_ _) | go_size))⟩

set_option maxHeartbeats 1000000 in
theorem decGen_no {A : Option Addr} {n c : Nat} {l : List UInt8} (w : World) (hr : Rd w w.heap.size A n l) (hc : n ≤ c) (hn : n ≤ 1000) (hok : ¬ okG l) :
    Calls Try.prog 24 #[.slice A n c] w fun e w' => e = .returned (.tuple #[time 0 0 0 0 0 0, .int .i64 6]) ∧ Below w.heap.size w w' := by
  obtain ⟨v, HD⟩ : ∃ v, Hid (∀ w, Rd w w.heap.size A n l → Calls Try.prog 56 #[.slice A n c, .int .i64 4] w fun e w' => e = .returned (.tuple #[v, .bool false]) ∧ Below w.heap.size w w' ∧ ∃ y m d h mi s, v = time y m d h mi s) := by
    by_cases hC : okC 4 l
    · cases hv : validB (yr4 l) (pr l 4) (pr l 6) (pr l 8) (pr l 10) (pr l 12)
      · refine ⟨time (yr4 l) (pr l 4) (pr l 6) (pr l 8) (pr l 10) (pr l 12), Lib.hid (fun w hr => (decode4_ok (c := c) (A := A) (n := n) (l := l) w hr hc hC).mono ?_)⟩
        rw [hv]
        rintro e w' ⟨rfl, hb⟩
        exact ⟨rfl, hb, _, _, _, _, _, _, rfl⟩
      · exact absurd ⟨hC, hv⟩ hok
    · refine ⟨time 0 0 0 0 0 0, Lib.hid (fun w hr => (decode_no (c := c) (A := A) (n := n) (l := l) (dg := 4) w hr (Nat.le_refl _) hn hc (by omega) hC).mono ?_)⟩
      rintro e w' ⟨rfl, hb⟩
      exact ⟨rfl, hb, _, _, _, _, _, _, rfl⟩
  have HR := Lib.hid hr
  clear hok hr
  go_enter Try.func24, Try.ntmps24
  go_upto_region 2 with (first | (go_at_call 56; refine (HD.out _ ((HR.out.alloc (Nat.le_refl _) _).more (by simp))).mono ?_; rintro e w1 ⟨rfl, hb1, y, m, d, h, mi, s, rfl⟩))
  have hb2 : Below w.heap.size w (w1.alloc (.cells #[.int .i64 y, .int .i64 m, .int .i64 d, .int .i64 h, .int .i64 mi, .int .i64 s] 26)) := by
    have hb := bel1 hb1
    have hz := hb.size
    exact hb.alloc hz _
  have tb := bk_old (o' := .cells #[.int .i64 y, .int .i64 m, .int .i64 d, .int .i64 h, .int .i64 mi, .int .i64 s] 26) (blk1 hb1)
  have tt : (w1.alloc (.cells #[.int .i64 y, .int .i64 m, .int .i64 d, .int .i64 h, .int .i64 mi, .int .i64 s] 26)).heap[w1.heap.size]? = _ := bk_new rfl
  clear hb1
  generalize hg : w1.heap.size = b1 at *
  clear hg
  generalize w1.alloc (.cells #[.int .i64 y, .int .i64 m, .int .i64 d, .int .i64 h, .int .i64 mi, .int .i64 s] 26) = w2 at *
  clear w1
  obtain ⟨q0, q1, q2, q3, q4, q5⟩ := cells6 tb
  obtain ⟨f0, f1, f2, f3, f4, f5⟩ := free6 tb
  obtain ⟨t0, t1, t2, t3, t4, t5⟩ := cells6 tt
  go_wp2
  clear q0 q1 q2 q3 q4 q5 f0 f1 f2 f3 f4 f5 t0 t1 t2 t3 t4 t5
  have tc := cells6 (set6 (.int .i64 0) (.int .i64 0) (.int .i64 0) (.int .i64 0) (.int .i64 0) (.int .i64 0) tb)
  refine bodyPost_ret (v := .tuple #[time 0 0 0 0 0 0, .int .i64 6]) (by simp [results, Try.results24, go_sem, *]) rfl ?_
  exact ⟨rfl, (by repeat' (first | (with_reducible exact Below.refl _ _) | (with_reducible assumption) | (with_reducible refine below_drewN ?_ _) | (with_reducible refine Below.drew ?_) | (with_reducible refine Below.alloc ?_ ?_ _) | (with_reducible refine Below.setCell ?_ ?_ _) | go_size))⟩
end Go.Proofs.Ytkkgcfllfhkoaaa.Clk
