/- Joined texts: ClkI, ClkJ. -/
import Derived.Test.YtnpmgofkfdpbjaaKE
import Derived.Test.YtnpmgofkfdpbjaaKD
set_option linter.unusedSimpArgs false
set_option linter.unusedVariables false
/- Walks: the clock's decode of a GeneralizedTime's digits. -/
namespace Go.Proofs.Ytnpmgofkfdpbjaa.Clk
open Go.RowKit Kit

set_option maxHeartbeats 2000000 in
set_option maxRecDepth 100000 in
theorem decode4_ok {A : Option Addr} {n c : Nat} {l : List UInt8} (w : World) (hr : Rd w w.heap.size A n l) (hc : n ≤ c) (hok : okC 4 l) :
    Calls Try.prog 142 #[.slice A n c, .int .i64 4] w fun e w' => e = .returned (.tuple #[time (yr4 l) (pr l 4) (pr l 6) (pr l 8) (pr l 10) (pr l 12), .bool (validB (yr4 l) (pr l 4) (pr l 6) (pr l 8) (pr l 10) (pr l 12))]) ∧ Below w.heap.size w w' := by
  have hn : n = 4 + 11 := by rw [← hr.len]; exact hok.1
  obtain rfl : n = 15 := hn
  have hr0 := hr
  obtain ⟨ad, rfl, hb0, c1⟩ := hr.all_ (by omega)
  have hb1 : ad.block < w.heap.size + 1 := by omega
  have C1 := Lib.hid c1
  have c0 := c1 14 (by omega)
  rw [add_pos ad (by omega)] at c0
  have hz := hok.2.1
  have hD := hok.2.2
  have HD := Lib.hid hD
  have HK := Lib.hid hok
  simp only [Nat.reduceAdd] at hz
  have H4 := Lib.hid hr0
  clear c1 hD hok hr hr0
  go_enter Try.func142, Try.ntmps142
  go_wp2
  go_loop [34] (fun i => ∃ k : Nat, k ≤ 14 ∧ i = .int .i64 k) (fun i => 15 - (intOf i).toNat)
  case atStart => exact ⟨0, Nat.zero_le _, rfl⟩
  case round =>
    obtain ⟨k, hk, rfl⟩ := hrel
    by_cases hlt : k < 14
    · have ck := C1.out k (by omega)
      have bk0 : (ad.add k).block < w.heap.size := by rw [block_add]; exact hb0
      have bk1 : (ad.add k).block < w.heap.size + 1 := by rw [block_add]; exact hb1
      obtain ⟨hlo, hhi⟩ := HD.out k (by omega)
      go_wp2
      go_round
      case rel => exact ⟨k + 1, by omega, by go_num⟩
      case measure => simp [intOf]; omega
    · obtain rfl : k = 14 := by omega
      clear c0 hz
      have NF := Lib.hid (next_first (c := c) H4.out HK.out (by omega))
      have HYY := Lib.hid (show yr4 l = 100 * pr l 0 + pr l 2 from rfl)
      obtain ⟨p0, p1⟩ := pr_bd HK.out (show 0 + 1 < 4 + 10 by omega)
      obtain ⟨p2, p3⟩ := pr_bd HK.out (show 2 + 1 < 4 + 10 by omega)
      have W1 : IntKind.i64.wrap (100 * pr l 0) = 100 * pr l 0 := IntWalk.i64_in _ (by omega)
      have W2 : IntKind.i64.wrap (100 * pr l 0 + pr l 2) = 100 * pr l 0 + pr l 2 := IntWalk.i64_in _ (by omega)
      have NX := Lib.hid (fun (b1 b2 b3 p : Nat) (cs : Array Value) (wx : World) (h : DS w wx w.heap.size b1 b2 b3 (some ad) 15 c l p cs) (hp : p + 1 < 14) => next_ds wx h HK.out hp (by omega))
      go_upto_region 13 with (first | (go_at_call 161; refine NF.out.mono ?_; rintro e w4 ⟨rfl, ds4⟩; have DS4 := Lib.hid ds4; clear ds4))
      go_cut [] from 52 (fun wc => DS w wc w.heap.size (w.heap.size + 1) (w.heap.size + 1 + 1) w4.heap.size (some ad) 15 c l 4 #[.int .i64 (yr4 l), .int .i64 0, .int .i64 0, .int .i64 0, .int .i64 0, .int .i64 0])
      case first =>
        go_region_with (first | (go_at_call 161; refine (NX.out _ _ _ _ _ _ (DS4.out _).drew (by omega)).mono ?_; rintro e w5 ⟨rfl, ds5, hg5⟩; have d5 := ds5.cell 0; have f5 := ds5.frozen 0; have DS5 := Lib.hid ds5; clear ds5))
        all_goals
          go_wp2_with fail
          go_meet
        all_goals
          have := DS5.out.set 0 (.int .i64 (100 * pr l 0 + pr l 2))
          rw [HYY.out]
          exact this
      case rest =>
        clear W1 W2
        have DSC := Lib.hid hcut
        have hltc := hcut.lt
        have hltb := hcut.2.2.2.2.2
        clear hcut
        go_wp2_with fail
        go_loopw [77] (fun i wr => ∃ k : Nat, k ≤ 5 ∧ i = .int .i64 (k : Int) ∧ DS w wr w.heap.size (w.heap.size + 1) (w.heap.size + 1 + 1) w4.heap.size (some ad) 15 c l (4 + 2 * k) (tcs (yr4 l) 4 l k) ∧ wr.heap[wc.heap.size]? = some (.cells (pts w4.heap.size) 168 (0, 0))) (fun i _ => 5 - (intOf i).toNat)
        case atStart => 
          refine ⟨0, by omega, rfl, ?_, bk_new (by simp)⟩
          rw [tcs_zero]
          exact DSC.out.alloc _
        case round => 
          obtain ⟨k, hk5, rfl, hds, hpt⟩ := hrel
          by_cases hlt : k < 5
          · have cp := cell_of_row wr _ k _ _ _ hpt
            rw [pts_at hlt] at cp
            have TS := Lib.hid (tcs_set (y := yr4 l) (dg := 4) (l := l) hlt)
            have TA := Lib.hid (tcs_at (y := yr4 l) (dg := 4) (l := l) hlt)
            have PT := Lib.hid hpt
            have HDS := Lib.hid hds
            have hb2 : wc.heap.size ≠ w.heap.size + 1 + 1 := by omega
            have hb3 : wc.heap.size ≠ w4.heap.size := by omega
            clear hpt hds
            go_wp2_with (first | (go_at_call 161; refine (NX.out _ _ _ _ _ _ HDS.out (by omega)).mono ?_; rintro e w2 ⟨rfl, ds2, hg2⟩; have c2 := ds2.cell (k + 1); rw [TA.out] at c2; have f2 := ds2.frozen (k + 1); have DS2 := Lib.hid ds2; clear ds2))
            go_roundw
            case rel =>
              refine ⟨k + 1, by omega, by go_num, ?_, ?_⟩
              · have := DS2.out.set (k + 1) (.int .i64 (pr l (4 + 2 * k)))
                rw [TS.out] at this
                exact this
              · refine (Below.heap_setCell _ _ _ _ hb3).trans ?_
                exact (hg2.block _ (Blk_lt PT.out) (fun e => hb2 (by injection e))).trans PT.out
            case measure => simp [intOf]; omega
          · obtain rfl : k = 5 := by omega
            rw [tcs_five] at hds
            have HV := Lib.hid (valid_any (yr4 l) (pr l 4) (pr l 6) (pr l 8) (pr l 10) (pr l 12) wr.drew)
            obtain ⟨q0, q1, q2, q3, q4, q5⟩ := cells6 hds.2.2.2.1
            have HDS := Lib.hid hds.drew
            have HB := Lib.hid hds.below
            clear hds hpt
            go_wp2_with fail
            go_region_with (first | (go_at_call 86; refine HV.out.mono ?_; rintro e w5 ⟨rfl, hb5⟩; have ds5 := Lib.hid (HDS.out.past hb5); obtain ⟨t0, t1, t2, t3, t4, t5⟩ := cells6 ds5.out.2.2.2.1; have z0 := ds5.out.cell1 0 (by omega); have z1 := ds5.out.cell1 1 (by omega); have z2 := ds5.out.cell1 2 (by omega); have z3 := ds5.out.cell1 3 (by omega); have z4 := ds5.out.cell1 4 (by omega); have z5 := ds5.out.cell1 5 (by omega); have g0 := ds5.out.free1 0; have g1 := ds5.out.free1 1; have g2 := ds5.out.free1 2; have g3 := ds5.out.free1 3; have g4 := ds5.out.free1 4; have g5 := ds5.out.free1 5))
            all_goals
              go_wp2
              clear z0 z1 z2 z3 z4 z5 g0 g1 g2 g3 g4 g5 t0 t1 t2 t3 t4 t5 q0 q1 q2 q3 q4 q5
              have zz := ds5.out.cell1
              refine bodyPost_ret (v := .tuple #[time (yr4 l) (pr l 4) (pr l 6) (pr l 8) (pr l 10) (pr l 12), .bool (validB (yr4 l) (pr l 4) (pr l 6) (pr l 8) (pr l 10) (pr l 12))]) (by simp [results, Try.results142, go_sem, *]) rfl ?_
              refine ⟨rfl, ?_⟩
              have := ds5.out.below
              have hsz : w.heap.size ≤ w.heap.size + 1 := by omega
              exact (by repeat' (first | (with_reducible exact Below.refl _ _) | (with_reducible assumption) | (with_reducible refine below_drewN ?_ _) | (with_reducible refine Below.drew ?_) | (with_reducible refine Below.alloc ?_ ?_ _) | (with_reducible refine Below.setCell ?_ ?_ _) | go_size))
end Go.Proofs.Ytnpmgofkfdpbjaa.Clk
/- Walks: the clock's DecodeUTC and DecodeGeneral. -/
namespace Go.Proofs.Ytnpmgofkfdpbjaa.Clk
open Go.RowKit Kit

/-- six cells of a block stored over -/
theorem set6 {w : World} {b : Nat} {x0 x1 x2 x3 x4 x5 : Value} {t : TypeId} (y0 y1 y2 y3 y4 y5 : Value) (h : w.heap[b]? = some (.cells #[x0, x1, x2, x3, x4, x5] t (0, 0))) :
    ((((((w.setCell ⟨b, 0, none⟩ y0).setCell ⟨b, 1, none⟩ y1).setCell ⟨b, 2, none⟩ y2).setCell ⟨b, 3, none⟩ y3).setCell ⟨b, 4, none⟩ y4).setCell ⟨b, 5, none⟩ y5).heap[b]? = some (.cells #[y0, y1, y2, y3, y4, y5] t (0, 0)) :=
  heap_setCell_same _ b 5 _ _ y5 (heap_setCell_same _ b 4 _ _ y4 (heap_setCell_same _ b 3 _ _ y3 (heap_setCell_same _ b 2 _ _ y2 (heap_setCell_same _ b 1 _ _ y1 (heap_setCell_same _ b 0 _ _ y0 h)))))
theorem free6 {w : World} {b : Nat} {cs : Array Value} {t : TypeId} (h : w.heap[b]? = some (.cells cs t (0, 0))) :
    w.frozen? ⟨b, 0, none⟩ = false ∧ w.frozen? ⟨b, 1, none⟩ = false ∧ w.frozen? ⟨b, 2, none⟩ = false ∧ w.frozen? ⟨b, 3, none⟩ = false ∧ w.frozen? ⟨b, 4, none⟩ = false ∧ w.frozen? ⟨b, 5, none⟩ = false :=
  ⟨frozen_of_row w b 0 _ _ h, frozen_of_row w b 1 _ _ h, frozen_of_row w b 2 _ _ h, frozen_of_row w b 3 _ _ h, frozen_of_row w b 4 _ _ h, frozen_of_row w b 5 _ _ h⟩

set_option maxHeartbeats 1000000 in
theorem decUTC_ok {A : Option Addr} {n c : Nat} {l : List UInt8} (w : World) (hr : Rd w w.heap.size A n l) (hc : n ≤ c) (hok : okU l) :
    Calls Try.prog 90 #[.slice A n c] w fun e w' => e = .returned (.tuple #[time (yr2 l) (pr l 2) (pr l 4) (pr l 6) (pr l 8) (pr l 10), .int .i64 0]) ∧ Below w.heap.size w w' := by
  obtain ⟨h1, h2⟩ := hok
  have D := Lib.hid (fun w => decode2_ok (c := c) (A := A) (n := n) (l := l) w)
  have HR := Lib.hid hr
  have H1 := Lib.hid h1
  have H2 := Lib.hid h2
  clear h1 h2 hr
  go_enter Try.func90, Try.ntmps90
  go_upto_region 2 with (first | (go_at_call 142; refine (D.out _ ((HR.out.alloc (Nat.le_refl _) _).more (by simp)) hc H1.out).mono ?_; rw [H2.out]; rintro e w1 ⟨rfl, hb1⟩))
  have hb2 : Below w.heap.size w (w1.alloc (.cells #[.int .i64 (yr2 l), .int .i64 (pr l 2), .int .i64 (pr l 4), .int .i64 (pr l 6), .int .i64 (pr l 8), .int .i64 (pr l 10)] 28)) := by
    have hb := bel1 hb1
    have hz := hb.size
    exact hb.alloc hz _
  have tb := bk_old (o' := .cells #[.int .i64 (yr2 l), .int .i64 (pr l 2), .int .i64 (pr l 4), .int .i64 (pr l 6), .int .i64 (pr l 8), .int .i64 (pr l 10)] 28) (blk1 hb1)
  have tt : (w1.alloc (.cells #[.int .i64 (yr2 l), .int .i64 (pr l 2), .int .i64 (pr l 4), .int .i64 (pr l 6), .int .i64 (pr l 8), .int .i64 (pr l 10)] 28)).heap[w1.heap.size]? = _ := bk_new rfl
  clear hb1
  generalize hg : w1.heap.size = b1 at *
  clear hg
  generalize w1.alloc (.cells #[.int .i64 (yr2 l), .int .i64 (pr l 2), .int .i64 (pr l 4), .int .i64 (pr l 6), .int .i64 (pr l 8), .int .i64 (pr l 10)] 28) = w2 at *
  clear w1
  obtain ⟨q0, q1, q2, q3, q4, q5⟩ := cells6 tb
  obtain ⟨f0, f1, f2, f3, f4, f5⟩ := free6 tb
  obtain ⟨t0, t1, t2, t3, t4, t5⟩ := cells6 tt
  go_wp2
  clear q0 q1 q2 q3 q4 q5 f0 f1 f2 f3 f4 f5 t0 t1 t2 t3 t4 t5
  have tc := cells6 (set6 (.int .i64 (yr2 l)) (.int .i64 (pr l 2)) (.int .i64 (pr l 4)) (.int .i64 (pr l 6)) (.int .i64 (pr l 8)) (.int .i64 (pr l 10)) tb)
  refine bodyPost_ret (v := .tuple #[time (yr2 l) (pr l 2) (pr l 4) (pr l 6) (pr l 8) (pr l 10), .int .i64 0]) (by simp [results, Try.results90, go_sem, *]) rfl ?_
  exact ⟨rfl, (by repeat' (first | (with_reducible exact Below.refl _ _) | (with_reducible assumption) | (with_reducible refine below_drewN ?_ _) | (with_reducible refine Below.drew ?_) | (with_reducible refine Below.alloc ?_ ?_ _) | (with_reducible refine Below.setCell ?_ ?_ _) | go_size))⟩

set_option maxHeartbeats 1000000 in
theorem decUTC_no {A : Option Addr} {n c : Nat} {l : List UInt8} (w : World) (hr : Rd w w.heap.size A n l) (hc : n ≤ c) (hn : n ≤ 100000) (hok : ¬ okU l) :
    Calls Try.prog 90 #[.slice A n c] w fun e w' => e = .returned (.tuple #[time 0 0 0 0 0 0, .int .i64 6]) ∧ Below w.heap.size w w' := by
  obtain ⟨v, HD⟩ : ∃ v, Hid (∀ w, Rd w w.heap.size A n l → Calls Try.prog 142 #[.slice A n c, .int .i64 2] w fun e w' => e = .returned (.tuple #[v, .bool false]) ∧ Below w.heap.size w w' ∧ ∃ y m d h mi s, v = time y m d h mi s) := by
    by_cases hC : okC 2 l
    · cases hv : validB (yr2 l) (pr l 2) (pr l 4) (pr l 6) (pr l 8) (pr l 10)
      · refine ⟨time (yr2 l) (pr l 2) (pr l 4) (pr l 6) (pr l 8) (pr l 10), Lib.hid (fun w hr => (decode2_ok (c := c) (A := A) (n := n) (l := l) w hr hc hC).mono ?_)⟩
        rw [hv]
        rintro e w' ⟨rfl, hb⟩
        exact ⟨rfl, hb, _, _, _, _, _, _, rfl⟩
      · exact absurd ⟨hC, hv⟩ hok
    · refine ⟨time 0 0 0 0 0 0, Lib.hid (fun w hr => (decode_no (c := c) (A := A) (n := n) (l := l) (dg := 2) w hr (Nat.le_refl _) hn hc (by omega) hC).mono ?_)⟩
      rintro e w' ⟨rfl, hb⟩
      exact ⟨rfl, hb, _, _, _, _, _, _, rfl⟩
  have HR := Lib.hid hr
  clear hok hr
  go_enter Try.func90, Try.ntmps90
  go_upto_region 2 with (first | (go_at_call 142; refine (HD.out _ ((HR.out.alloc (Nat.le_refl _) _).more (by simp))).mono ?_; rintro e w1 ⟨rfl, hb1, y, m, d, h, mi, s, rfl⟩))
  have hb2 : Below w.heap.size w (w1.alloc (.cells #[.int .i64 y, .int .i64 m, .int .i64 d, .int .i64 h, .int .i64 mi, .int .i64 s] 28)) := by
    have hb := bel1 hb1
    have hz := hb.size
    exact hb.alloc hz _
  have tb := bk_old (o' := .cells #[.int .i64 y, .int .i64 m, .int .i64 d, .int .i64 h, .int .i64 mi, .int .i64 s] 28) (blk1 hb1)
  have tt : (w1.alloc (.cells #[.int .i64 y, .int .i64 m, .int .i64 d, .int .i64 h, .int .i64 mi, .int .i64 s] 28)).heap[w1.heap.size]? = _ := bk_new rfl
  clear hb1
  generalize hg : w1.heap.size = b1 at *
  clear hg
  generalize w1.alloc (.cells #[.int .i64 y, .int .i64 m, .int .i64 d, .int .i64 h, .int .i64 mi, .int .i64 s] 28) = w2 at *
  clear w1
  obtain ⟨q0, q1, q2, q3, q4, q5⟩ := cells6 tb
  obtain ⟨f0, f1, f2, f3, f4, f5⟩ := free6 tb
  obtain ⟨t0, t1, t2, t3, t4, t5⟩ := cells6 tt
  go_wp2
  clear q0 q1 q2 q3 q4 q5 f0 f1 f2 f3 f4 f5 t0 t1 t2 t3 t4 t5
  have tc := cells6 (set6 (.int .i64 0) (.int .i64 0) (.int .i64 0) (.int .i64 0) (.int .i64 0) (.int .i64 0) tb)
  refine bodyPost_ret (v := .tuple #[time 0 0 0 0 0 0, .int .i64 6]) (by simp [results, Try.results90, go_sem, *]) rfl ?_
  exact ⟨rfl, (by repeat' (first | (with_reducible exact Below.refl _ _) | (with_reducible assumption) | (with_reducible refine below_drewN ?_ _) | (with_reducible refine Below.drew ?_) | (with_reducible refine Below.alloc ?_ ?_ _) | (with_reducible refine Below.setCell ?_ ?_ _) | go_size))⟩

set_option maxHeartbeats 1000000 in
theorem decGen_ok {A : Option Addr} {n c : Nat} {l : List UInt8} (w : World) (hr : Rd w w.heap.size A n l) (hc : n ≤ c) (hok : okG l) :
    Calls Try.prog 91 #[.slice A n c] w fun e w' => e = .returned (.tuple #[time (yr4 l) (pr l 4) (pr l 6) (pr l 8) (pr l 10) (pr l 12), .int .i64 0]) ∧ Below w.heap.size w w' := by
  obtain ⟨h1, h2⟩ := hok
  have D := Lib.hid (fun w => decode4_ok (c := c) (A := A) (n := n) (l := l) w)
  have HR := Lib.hid hr
  have H1 := Lib.hid h1
  have H2 := Lib.hid h2
  clear h1 h2 hr
  go_enter Try.func91, Try.ntmps91
  go_upto_region 2 with (first | (go_at_call 142; refine (D.out _ ((HR.out.alloc (Nat.le_refl _) _).more (by simp)) hc H1.out).mono ?_; rw [H2.out]; rintro e w1 ⟨rfl, hb1⟩))
  have hb2 : Below w.heap.size w (w1.alloc (.cells #[.int .i64 (yr4 l), .int .i64 (pr l 4), .int .i64 (pr l 6), .int .i64 (pr l 8), .int .i64 (pr l 10), .int .i64 (pr l 12)] 28)) := by
    have hb := bel1 hb1
    have hz := hb.size
    exact hb.alloc hz _
  have tb := bk_old (o' := .cells #[.int .i64 (yr4 l), .int .i64 (pr l 4), .int .i64 (pr l 6), .int .i64 (pr l 8), .int .i64 (pr l 10), .int .i64 (pr l 12)] 28) (blk1 hb1)
  have tt : (w1.alloc (.cells #[.int .i64 (yr4 l), .int .i64 (pr l 4), .int .i64 (pr l 6), .int .i64 (pr l 8), .int .i64 (pr l 10), .int .i64 (pr l 12)] 28)).heap[w1.heap.size]? = _ := bk_new rfl
  clear hb1
  generalize hg : w1.heap.size = b1 at *
  clear hg
  generalize w1.alloc (.cells #[.int .i64 (yr4 l), .int .i64 (pr l 4), .int .i64 (pr l 6), .int .i64 (pr l 8), .int .i64 (pr l 10), .int .i64 (pr l 12)] 28) = w2 at *
  clear w1
  obtain ⟨q0, q1, q2, q3, q4, q5⟩ := cells6 tb
  obtain ⟨f0, f1, f2, f3, f4, f5⟩ := free6 tb
  obtain ⟨t0, t1, t2, t3, t4, t5⟩ := cells6 tt
  go_wp2
  clear q0 q1 q2 q3 q4 q5 f0 f1 f2 f3 f4 f5 t0 t1 t2 t3 t4 t5
  have tc := cells6 (set6 (.int .i64 (yr4 l)) (.int .i64 (pr l 4)) (.int .i64 (pr l 6)) (.int .i64 (pr l 8)) (.int .i64 (pr l 10)) (.int .i64 (pr l 12)) tb)
  refine bodyPost_ret (v := .tuple #[time (yr4 l) (pr l 4) (pr l 6) (pr l 8) (pr l 10) (pr l 12), .int .i64 0]) (by simp [results, Try.results91, go_sem, *]) rfl ?_
  exact ⟨rfl, (by repeat' (first | (with_reducible exact Below.refl _ _) | (with_reducible assumption) | (with_reducible refine below_drewN ?_ _) | (with_reducible refine Below.drew ?_) | (with_reducible refine Below.alloc ?_ ?_ _) | (with_reducible refine Below.setCell ?_ ?_ _) | go_size))⟩

set_option maxHeartbeats 1000000 in
theorem decGen_no {A : Option Addr} {n c : Nat} {l : List UInt8} (w : World) (hr : Rd w w.heap.size A n l) (hc : n ≤ c) (hn : n ≤ 100000) (hok : ¬ okG l) :
    Calls Try.prog 91 #[.slice A n c] w fun e w' => e = .returned (.tuple #[time 0 0 0 0 0 0, .int .i64 6]) ∧ Below w.heap.size w w' := by
  obtain ⟨v, HD⟩ : ∃ v, Hid (∀ w, Rd w w.heap.size A n l → Calls Try.prog 142 #[.slice A n c, .int .i64 4] w fun e w' => e = .returned (.tuple #[v, .bool false]) ∧ Below w.heap.size w w' ∧ ∃ y m d h mi s, v = time y m d h mi s) := by
    by_cases hC : okC 4 l
    · cases hv : validB (yr4 l) (pr l 4) (pr l 6) (pr l 8) (pr l 10) (pr l 12)
      · refine ⟨time (yr4 l) (pr l 4) (pr l 6) (pr l 8) (pr l 10) (pr l 12), Lib.hid (fun w hr => (decode4_ok (c := c) (A := A) (n := n) (l := l) w hr hc hC).mono ?_)⟩
        rw [hv]
        rintro e w' ⟨rfl, hb⟩
        exact ⟨rfl, hb, _, _, _, _, _, _, rfl⟩
      · exact absurd ⟨hC, hv⟩ hok
    · refine ⟨time 0 0 0 0 0 0, Lib.hid (fun w hr => (decode_no (c := c) (A := A) (n := n) (l := l) (dg := 4) w hr (Nat.le_refl _) hn hc (by omega) hC).mono ?_)⟩
      rintro e w' ⟨rfl, hb⟩
      exact ⟨rfl, hb, _, _, _, _, _, _, rfl⟩
  have HR := Lib.hid hr
  clear hok hr
  go_enter Try.func91, Try.ntmps91
  go_upto_region 2 with (first | (go_at_call 142; refine (HD.out _ ((HR.out.alloc (Nat.le_refl _) _).more (by simp))).mono ?_; rintro e w1 ⟨rfl, hb1, y, m, d, h, mi, s, rfl⟩))
  have hb2 : Below w.heap.size w (w1.alloc (.cells #[.int .i64 y, .int .i64 m, .int .i64 d, .int .i64 h, .int .i64 mi, .int .i64 s] 28)) := by
    have hb := bel1 hb1
    have hz := hb.size
    exact hb.alloc hz _
  have tb := bk_old (o' := .cells #[.int .i64 y, .int .i64 m, .int .i64 d, .int .i64 h, .int .i64 mi, .int .i64 s] 28) (blk1 hb1)
  have tt : (w1.alloc (.cells #[.int .i64 y, .int .i64 m, .int .i64 d, .int .i64 h, .int .i64 mi, .int .i64 s] 28)).heap[w1.heap.size]? = _ := bk_new rfl
  clear hb1
  generalize hg : w1.heap.size = b1 at *
  clear hg
  generalize w1.alloc (.cells #[.int .i64 y, .int .i64 m, .int .i64 d, .int .i64 h, .int .i64 mi, .int .i64 s] 28) = w2 at *
  clear w1
  obtain ⟨q0, q1, q2, q3, q4, q5⟩ := cells6 tb
  obtain ⟨f0, f1, f2, f3, f4, f5⟩ := free6 tb
  obtain ⟨t0, t1, t2, t3, t4, t5⟩ := cells6 tt
  go_wp2
  clear q0 q1 q2 q3 q4 q5 f0 f1 f2 f3 f4 f5 t0 t1 t2 t3 t4 t5
  have tc := cells6 (set6 (.int .i64 0) (.int .i64 0) (.int .i64 0) (.int .i64 0) (.int .i64 0) (.int .i64 0) tb)
  refine bodyPost_ret (v := .tuple #[time 0 0 0 0 0 0, .int .i64 6]) (by simp [results, Try.results91, go_sem, *]) rfl ?_
  exact ⟨rfl, (by repeat' (first | (with_reducible exact Below.refl _ _) | (with_reducible assumption) | (with_reducible refine below_drewN ?_ _) | (with_reducible refine Below.drew ?_) | (with_reducible refine Below.alloc ?_ ?_ _) | (with_reducible refine Below.setCell ?_ ?_ _) | go_size))⟩
end Go.Proofs.Ytnpmgofkfdpbjaa.Clk
