/- Walks: headers, read by tlv and by its reference. -/
import Derived.Test.YtnpmgofkfdpbjaaTlvD
set_option linter.unusedSimpArgs false
set_option linter.unusedVariables false
namespace Go.Proofs.Ytnpmgofkfdpbjaa.Tlv
open Go.RowKit Kit

/-- a header, and an error -/
structure Hd where
  cls : Int
  num : Int
  cons : Bool
  len : Int
  size : Int
def Hd.zero : Hd := ⟨0, 0, false, 0, 0⟩
abbrev hdV (h : Hd) : Value := .agg #[.int .i64 h.cls, .int .i64 h.num, .bool h.cons, .int .i64 h.len, .int .i64 h.size]
/-- what ReadHeader reads: a header, an error's code and offset -/
def rh (l : List UInt8) : Hd × Int × Int :=
  if l.length = 0 then (Hd.zero, 1, 0)
  else if ridE (bt l 0) ≠ 0 then (Hd.zero, 3, 0)
  else if (rl (l.drop 1)).2.2.1 ≠ 0 then (Hd.zero, (rl (l.drop 1)).2.2.1, (rl (l.drop 1)).2.2.2 + 1)
  else (⟨ridC (bt l 0), ridN (bt l 0), ridB (bt l 0), (rl (l.drop 1)).1, 1 + (rl (l.drop 1)).2.1⟩, 0, 0)
abbrev rhV (r : Hd × Int × Int) : Value := .tuple #[hdV r.1, err r.2.1 r.2.2]
theorem rl_bd (l : List UInt8) (hl : l.length ≤ 140737488355328) : 0 ≤ (rl l).1 ∧ (rl l).1 ≤ 2147483647 ∧ 0 ≤ (rl l).2.1 ∧ (rl l).2.1 ≤ 5 ∧ 0 ≤ (rl l).2.2.1 ∧ (rl l).2.2.1 ≤ 4 ∧ 0 ≤ (rl l).2.2.2 ∧ (rl l).2.2.2 ≤ l.length := by
  have := bt_lo l 0
  unfold rl
  repeat' split
  all_goals simp only []
  all_goals omega
theorem cells5 {w : World} {b : Nat} {x0 x1 x2 x3 x4 : Value} {t : TypeId} (h : w.heap[b]? = some (.cells #[x0, x1, x2, x3, x4] t (0, 0))) :
    w.cell? ⟨b, 0, none⟩ = some x0 ∧ w.cell? ⟨b, 1, none⟩ = some x1 ∧ w.cell? ⟨b, 2, none⟩ = some x2 ∧ w.cell? ⟨b, 3, none⟩ = some x3 ∧ w.cell? ⟨b, 4, none⟩ = some x4 := by
  refine ⟨?_, ?_, ?_, ?_, ?_⟩ <;> (rw [cell_of_row w b _ _ _ _ h]; rfl)
theorem free5 {w : World} {b : Nat} {cs : Array Value} {t : TypeId} (h : w.heap[b]? = some (.cells cs t (0, 0))) :
    w.frozen? ⟨b, 0, none⟩ = false ∧ w.frozen? ⟨b, 1, none⟩ = false ∧ w.frozen? ⟨b, 2, none⟩ = false ∧ w.frozen? ⟨b, 3, none⟩ = false ∧ w.frozen? ⟨b, 4, none⟩ = false :=
  ⟨frozen_of_row w b 0 _ _ h, frozen_of_row w b 1 _ _ h, frozen_of_row w b 2 _ _ h, frozen_of_row w b 3 _ _ h, frozen_of_row w b 4 _ _ h⟩
theorem cells2 {w : World} {b : Nat} {x0 x1 : Value} {t : TypeId} (h : w.heap[b]? = some (.cells #[x0, x1] t (0, 0))) :
    w.cell? ⟨b, 0, none⟩ = some x0 ∧ w.cell? ⟨b, 1, none⟩ = some x1 := by
  refine ⟨?_, ?_⟩ <;> (rw [cell_of_row w b _ _ _ _ h]; rfl)
/-- two blocks, just laid, behind a call -/
theorem box2 {w w1 : World} {o0 o1 : Obj} (hb : Below ((w.alloc o0).alloc o1).heap.size ((w.alloc o0).alloc o1) w1) :
    w1.heap[w.heap.size]? = some o0 ∧ w1.heap[w.heap.size + 1]? = some o1 ∧ Below w.heap.size w w1 := by
  refine ⟨(hb.block _ (by simp; omega)).trans ((Below.heap_alloc _ o1 _ (by simp)).trans (heap_alloc_new w o0)), (hb.block _ (by simp)).trans ?_, ?_⟩
  · have := heap_alloc_new (w.alloc o0) o1
    simpa using this
  · exact (((Below.refl _ _).alloc (Nat.le_refl _) _).alloc (by simp) _).trans (hb.mono (by simp; omega))
theorem bk_new {w : World} {b : Nat} {o : Obj} (h : b = w.heap.size) : (w.alloc o).heap[b]? = some o := by subst h; exact heap_alloc_new w o
theorem bk_old {w : World} {b : Nat} {o o' : Obj} (h : w.heap[b]? = some o) : (w.alloc o').heap[b]? = some o := (Below.heap_alloc w o' b (Blk_lt h)).trans h
theorem set5 {w : World} {b : Nat} {x0 x1 x2 x3 x4 : Value} {t : TypeId} (y0 y1 y2 y3 y4 : Value) (h : w.heap[b]? = some (.cells #[x0, x1, x2, x3, x4] t (0, 0))) :
    (((((w.setCell ⟨b, 0, none⟩ y0).setCell ⟨b, 1, none⟩ y1).setCell ⟨b, 2, none⟩ y2).setCell ⟨b, 3, none⟩ y3).setCell ⟨b, 4, none⟩ y4).heap[b]? = some (.cells #[y0, y1, y2, y3, y4] t (0, 0)) :=
  heap_setCell_same _ b 4 _ _ y4 (heap_setCell_same _ b 3 _ _ y3 (heap_setCell_same _ b 2 _ _ y2 (heap_setCell_same _ b 1 _ _ y1 (heap_setCell_same _ b 0 _ _ y0 h))))
theorem set2 {w : World} {b : Nat} {x0 x1 : Value} {t : TypeId} (y0 y1 : Value) (h : w.heap[b]? = some (.cells #[x0, x1] t (0, 0))) :
    ((w.setCell ⟨b, 0, none⟩ y0).setCell ⟨b, 1, none⟩ y1).heap[b]? = some (.cells #[y0, y1] t (0, 0)) :=
  heap_setCell_same _ b 1 _ _ y1 (heap_setCell_same _ b 0 _ _ y0 h)
theorem set_far {w : World} {b c k : Nat} {o : Obj} (h : w.heap[b]? = some o) (hne : b ≠ c) (y : Value) : (w.setCell ⟨c, k, none⟩ y).heap[b]? = some o := by
  rw [heap_setCell_other _ _ _ _ hne]; exact h
theorem far5 {w : World} {b c : Nat} {o : Obj} (h : w.heap[b]? = some o) (hne : b ≠ c) (y0 y1 y2 y3 y4 : Value) :
    (((((w.setCell ⟨c, 0, none⟩ y0).setCell ⟨c, 1, none⟩ y1).setCell ⟨c, 2, none⟩ y2).setCell ⟨c, 3, none⟩ y3).setCell ⟨c, 4, none⟩ y4).heap[b]? = some o :=
  set_far (set_far (set_far (set_far (set_far h hne _) hne _) hne _) hne _) hne _
theorem far2 {w : World} {b c : Nat} {o : Obj} (h : w.heap[b]? = some o) (hne : b ≠ c) (y0 y1 : Value) : ((w.setCell ⟨c, 0, none⟩ y0).setCell ⟨c, 1, none⟩ y1).heap[b]? = some o :=
  set_far (set_far h hne _) hne _
/-- b[1:] -/
theorem tail_rd {w : World} {B n c : Nat} {ad : Addr} {l : List UInt8} (h : Rd w B (some ad) n l) (hn : 1 ≤ n) (hc : n ≤ c) :
    (c = 1 → Rd w B (some ad) (n - 1) (l.drop 1)) ∧ (¬ c = 1 → Rd w B (some ⟨ad.block, ad.off + 1, none⟩) (n - 1) (l.drop 1)) := by
  have hr := h.cut (k := 1) (m := n) (cap := c) hn (Nat.le_refl _) hc
  rw [List.take_of_length_le (by rw [List.length_drop, h.len]; exact Nat.le_refl _)] at hr
  refine ⟨fun e => by rw [if_pos e] at hr; exact hr, fun e => ?_⟩
  rw [if_neg e] at hr
  rw [← add_one]; exact hr

set_option maxRecDepth 100000 in
set_option maxHeartbeats 2000000 in
theorem readhead_any {A : Option Addr} {n c B : Nat} {l : List UInt8} (w : World) (hr : Rd w B A n l) (hB : B ≤ w.heap.size) (hc : n ≤ c) (hm : c ≤ maxLen) (hn : n ≤ 140737488355328) :
    Calls Try.prog 160 #[.slice A n c] w fun e w' => e = .returned (rhV (rh l)) ∧ Below w.heap.size w w' := by
  have hl := hr.len
  by_cases h0 : n = 0
  · have E := Lib.hid (show rh l = (Hd.zero, 1, 0) from by unfold rh; rw [if_pos (hl.trans h0)])
    rw [E.out]
    subst h0
    clear hr hl
    go_enter Try.func160, Try.ntmps160
    go_wp2
    refine bodyPost_ret (v := .tuple #[.agg #[.int .i64 0, .int .i64 0, .bool false, .int .i64 0, .int .i64 0], err 1 0]) (by simp [results, Try.results160, go_sem, *]) rfl ?_
    exact ⟨rfl, (by repeat' (first | (with_reducible exact Below.refl _ _) | (with_reducible assumption) | (with_reducible refine below_drewN ?_ _) | (with_reducible refine Below.drew ?_) | (with_reducible refine Below.alloc ?_ ?_ _) | (with_reducible refine Below.setCell ?_ ?_ _) | go_size))⟩
  obtain ⟨ad, rfl, hab, hcell⟩ := hr.all_ (by omega)
  have c0 : w.cell? ad = some (.int .u8 (bt l 0)) := by
    have := hcell 0 (by omega)
    rwa [show ad.add 0 = ad from by unfold Addr.add; rw [if_pos rfl]] at this
  have hab' : ad.block < w.heap.size := by omega
  have hab2 : ad.block < w.heap.size + 1 := by omega
  have b0 := bt_lo l 0
  have b1 := bt_hi l 0
  have h0' : ¬ (n : Int) = 0 := by omega
  have RI := Lib.hid (fun w => readid_any (bt l 0) w b0 b1)
  by_cases hx : bt l 0 % 32 = 31
  · obtain ⟨e1, e2, e3, e4⟩ := rid_bad hx
    have E := Lib.hid (show rh l = (Hd.zero, 3, 0) from by unfold rh; rw [if_neg (by omega), if_pos (by rw [e4]; decide)])
    rw [E.out]
    rw [e1, e2, e3, e4] at RI
    clear hr hl hcell e1 e2 e3 e4 hx
    generalize bt l 0 = b at *
    go_enter Try.func160, Try.ntmps160
    go_wp2_with (go_at_call 165; refine (RI.out _).mono ?_; rintro e w' ⟨rfl, rfl⟩)
    refine bodyPost_ret (v := .tuple #[.agg #[.int .i64 0, .int .i64 0, .bool false, .int .i64 0, .int .i64 0], err 3 0]) (by simp [results, Try.results160, go_sem, *]) rfl ?_
    exact ⟨rfl, (by repeat' (first | (with_reducible exact Below.refl _ _) | (with_reducible assumption) | (with_reducible refine below_drewN ?_ _) | (with_reducible refine Below.drew ?_) | (with_reducible refine Below.alloc ?_ ?_ _) | (with_reducible refine Below.setCell ?_ ?_ _) | go_size))⟩
  have e4 := (rid_ok hx).2.2.2
  obtain ⟨T1, T2⟩ := tail_rd hr (by omega) hc
  have hrb := rl_bd (l.drop 1) (by rw [List.length_drop]; omega)
  have hdl : (l.drop 1).length ≤ 140737488355328 := by rw [List.length_drop]; omega
  have EB := Lib.hid (fun (h : (rl (l.drop 1)).2.2.1 ≠ 0) => show rh l = (Hd.zero, (rl (l.drop 1)).2.2.1, (rl (l.drop 1)).2.2.2 + 1) from by unfold rh; rw [if_neg (by omega), if_neg (by rw [e4]; simp), if_pos h])
  have EO := Lib.hid (fun (h : ¬ (rl (l.drop 1)).2.2.1 ≠ 0) => show rh l = (⟨ridC (bt l 0), ridN (bt l 0), ridB (bt l 0), (rl (l.drop 1)).1, 1 + (rl (l.drop 1)).2.1⟩, 0, 0) from by unfold rh; rw [if_neg (by omega), if_neg (by rw [e4]; simp), if_neg h])
  rw [e4] at RI
  have RL := Lib.hid (fun (A : Option Addr) (k c : Nat) (w' : World) (h : Rd w' B A k (l.drop 1)) (hB : B ≤ w'.heap.size) (hc : k ≤ c) (hm : c ≤ maxLen) => readlen_any (c := c) w' h hB hc hm)
  generalize rl (l.drop 1) = r at *
  obtain ⟨r1, r2, r3, r4⟩ := r
  simp only [rlV] at RL EB EO hrb
  have hm' := hm
  unfold maxLen at hm'
  have TP := Lib.hid T1
  have TN := Lib.hid T2
  clear T1 T2 hr hcell hx e4
  obtain ⟨ci, hci⟩ : ∃ x, ridC (bt l 0) = x := ⟨_, rfl⟩
  obtain ⟨ni, hni⟩ : ∃ x, ridN (bt l 0) = x := ⟨_, rfl⟩
  obtain ⟨bi, hbi⟩ : ∃ x, ridB (bt l 0) = x := ⟨_, rfl⟩
  rw [hci, hni, hbi] at EO
  rw [hci, hni, hbi] at RI
  clear hci hni hbi
  generalize bt l 0 = b at *
  go_enter Try.func160, Try.ntmps160
  go_upto_region 6 with (first | (go_at_call 165; refine (RI.out _).mono ?_; rintro e w' ⟨rfl, rfl⟩))
  by_cases hcc : c = 1
  · have RT := Lib.hid (TP.out hcc)
    clear TP TN
    obtain rfl : n = 1 := by omega
    subst hcc
    go_upto_region 7 with (first | (go_at_call 166; refine (RL.out _ _ _ _ (((RT.out).alloc hB _).alloc (by simp; omega) _) (by simp; omega) (by omega) (by unfold maxLen; omega)).mono ?_; rintro e w1 ⟨rfl, hb⟩))
    obtain ⟨t2, t3, bel⟩ := box2 hb
    have hs := hb.size
    simp only [World.size_alloc] at hs
    have t4 : (w1.alloc (.cells #[.int .i64 r3, .int .i64 r4] 36)).heap[w1.heap.size]? = _ := bk_new rfl
    replace t2 := bk_old (o' := .cells #[.int .i64 r3, .int .i64 r4] 36) t2
    replace t3 := bk_old (o' := .cells #[.int .i64 r3, .int .i64 r4] 36) t3
    replace bel := bel.alloc bel.size (.cells #[.int .i64 r3, .int .i64 r4] 36)
    have n1 : ¬ w1.heap.size = w.heap.size := by omega
    have n2 : ¬ w1.heap.size = w.heap.size + 1 := by omega
    have n3 : ¬ w.heap.size = w1.heap.size := by omega
    have n4 : ¬ w.heap.size + 1 = w1.heap.size := by omega
    have hwb : w.heap.size ≤ w1.heap.size := by omega
    clear hb hs RT
    generalize hg : w1.heap.size = b4 at *
    clear hg
    generalize w1.alloc (.cells #[.int .i64 r3, .int .i64 r4] 36) = w2 at *
    clear w1
    have T2 := Lib.hid t2
    have T3 := Lib.hid t3
    have T4 := Lib.hid t4
    obtain ⟨q0, q1, q2, q3, q4⟩ := cells5 t2
    obtain ⟨f0, f1, f2, f3, f4⟩ := free5 t2
    obtain ⟨s0, s1⟩ := cells2 t3
    obtain ⟨g0, g1, _, _, _⟩ := free5 t3
    obtain ⟨u0, u1⟩ := cells2 t4
    obtain ⟨h0, h1, _, _, _⟩ := free5 t4
    clear t2 t3 t4
    by_cases hz : r3 = 0
    · have E := Lib.hid (EO.out (fun h => h hz))
      subst hz
      go_wp2
      clear q0 q1 q2 q3 q4 f0 f1 f2 f3 f4 s0 s1 g0 g1 u0 u1 h0 h1
      have tc := cells5 (far2 (c := w.heap.size + 1) (set5 (.int .i64 ci) (.int .i64 ni) (.bool bi) (.int .i64 r1) (.int .i64 (1 + r2)) T2.out) (by omega) (.int .i64 0) (.int .i64 0))
      have td := cells2 (set2 (.int .i64 0) (.int .i64 0) (far5 (c := w.heap.size) T3.out (by omega) (.int .i64 ci) (.int .i64 ni) (.bool bi) (.int .i64 r1) (.int .i64 (1 + r2))))
      refine bodyPost_ret (v := .tuple #[.agg #[.int .i64 ci, .int .i64 ni, .bool bi, .int .i64 r1, .int .i64 (1 + r2)], err 0 0]) (by simp [results, Try.results160, go_sem, *]) rfl ?_
      exact ⟨by rw [E.out], (by repeat' (first | (with_reducible exact Below.refl _ _) | (with_reducible assumption) | (with_reducible refine below_drewN ?_ _) | (with_reducible refine Below.drew ?_) | (with_reducible refine Below.alloc ?_ ?_ _) | (with_reducible refine Below.setCell ?_ ?_ _) | go_size))⟩
    · have E := Lib.hid (EB.out hz)
      have wr4 : IntKind.i64.wrap (r4 + 1) = r4 + 1 := IntWalk.i64_in _ (by omega)
      go_upto_region 9 with fail
      go_region
      all_goals
        go_wp2
        clear q0 q1 q2 q3 q4 f0 f1 f2 f3 f4 s0 s1 g0 g1 u0 u1 h0 h1
        have tc := cells5 (far2 (c := w.heap.size + 1) (set5 (.int .i64 0) (.int .i64 0) (.bool false) (.int .i64 0) (.int .i64 0) (set_far (c := b4) (k := 1) T2.out (by omega) (.int .i64 (r4 + 1)))) (by omega) (.int .i64 r3) (.int .i64 (r4 + 1)))
        have td := cells2 (set2 (.int .i64 r3) (.int .i64 (r4 + 1)) (far5 (c := w.heap.size) (set_far (c := b4) (k := 1) T3.out (by omega) (.int .i64 (r4 + 1))) (by omega) (.int .i64 0) (.int .i64 0) (.bool false) (.int .i64 0) (.int .i64 0)))
        refine bodyPost_ret (v := .tuple #[.agg #[.int .i64 0, .int .i64 0, .bool false, .int .i64 0, .int .i64 0], err r3 (r4 + 1)]) (by simp [results, Try.results160, go_sem, *]) rfl ?_
        exact ⟨by rw [E.out]; rfl, (by repeat' (first | (with_reducible exact Below.refl _ _) | (with_reducible assumption) | (with_reducible refine below_drewN ?_ _) | (with_reducible refine Below.drew ?_) | (with_reducible refine Below.alloc ?_ ?_ _) | (with_reducible refine Below.setCell ?_ ?_ _) | go_size))⟩
  · have RT := Lib.hid (TN.out hcc)
    clear TP TN
    go_upto_region 7 with (first | (go_at_call 166; refine (RL.out _ _ _ _ (((RT.out).alloc hB _).alloc (by simp; omega) _) (by simp; omega) (by omega) (by unfold maxLen; omega)).mono ?_; rintro e w1 ⟨rfl, hb⟩))
    obtain ⟨t2, t3, bel⟩ := box2 hb
    have hs := hb.size
    simp only [World.size_alloc] at hs
    have t4 : (w1.alloc (.cells #[.int .i64 r3, .int .i64 r4] 36)).heap[w1.heap.size]? = _ := bk_new rfl
    replace t2 := bk_old (o' := .cells #[.int .i64 r3, .int .i64 r4] 36) t2
    replace t3 := bk_old (o' := .cells #[.int .i64 r3, .int .i64 r4] 36) t3
    replace bel := bel.alloc bel.size (.cells #[.int .i64 r3, .int .i64 r4] 36)
    have n1 : ¬ w1.heap.size = w.heap.size := by omega
    have n2 : ¬ w1.heap.size = w.heap.size + 1 := by omega
    have n3 : ¬ w.heap.size = w1.heap.size := by omega
    have n4 : ¬ w.heap.size + 1 = w1.heap.size := by omega
    have hwb : w.heap.size ≤ w1.heap.size := by omega
    clear hb hs RT
    generalize hg : w1.heap.size = b4 at *
    clear hg
    generalize w1.alloc (.cells #[.int .i64 r3, .int .i64 r4] 36) = w2 at *
    clear w1
    have T2 := Lib.hid t2
    have T3 := Lib.hid t3
    have T4 := Lib.hid t4
    obtain ⟨q0, q1, q2, q3, q4⟩ := cells5 t2
    obtain ⟨f0, f1, f2, f3, f4⟩ := free5 t2
    obtain ⟨s0, s1⟩ := cells2 t3
    obtain ⟨g0, g1, _, _, _⟩ := free5 t3
    obtain ⟨u0, u1⟩ := cells2 t4
    obtain ⟨h0, h1, _, _, _⟩ := free5 t4
    clear t2 t3 t4
    by_cases hz : r3 = 0
    · have E := Lib.hid (EO.out (fun h => h hz))
      subst hz
      go_wp2
      clear q0 q1 q2 q3 q4 f0 f1 f2 f3 f4 s0 s1 g0 g1 u0 u1 h0 h1
      have tc := cells5 (far2 (c := w.heap.size + 1) (set5 (.int .i64 ci) (.int .i64 ni) (.bool bi) (.int .i64 r1) (.int .i64 (1 + r2)) T2.out) (by omega) (.int .i64 0) (.int .i64 0))
      have td := cells2 (set2 (.int .i64 0) (.int .i64 0) (far5 (c := w.heap.size) T3.out (by omega) (.int .i64 ci) (.int .i64 ni) (.bool bi) (.int .i64 r1) (.int .i64 (1 + r2))))
      refine bodyPost_ret (v := .tuple #[.agg #[.int .i64 ci, .int .i64 ni, .bool bi, .int .i64 r1, .int .i64 (1 + r2)], err 0 0]) (by simp [results, Try.results160, go_sem, *]) rfl ?_
      exact ⟨by rw [E.out], (by repeat' (first | (with_reducible exact Below.refl _ _) | (with_reducible assumption) | (with_reducible refine below_drewN ?_ _) | (with_reducible refine Below.drew ?_) | (with_reducible refine Below.alloc ?_ ?_ _) | (with_reducible refine Below.setCell ?_ ?_ _) | go_size))⟩
    · have E := Lib.hid (EB.out hz)
      have wr4 : IntKind.i64.wrap (r4 + 1) = r4 + 1 := IntWalk.i64_in _ (by omega)
      go_upto_region 9 with fail
      go_region
      all_goals
        go_wp2
        clear q0 q1 q2 q3 q4 f0 f1 f2 f3 f4 s0 s1 g0 g1 u0 u1 h0 h1
        have tc := cells5 (far2 (c := w.heap.size + 1) (set5 (.int .i64 0) (.int .i64 0) (.bool false) (.int .i64 0) (.int .i64 0) (set_far (c := b4) (k := 1) T2.out (by omega) (.int .i64 (r4 + 1)))) (by omega) (.int .i64 r3) (.int .i64 (r4 + 1)))
        have td := cells2 (set2 (.int .i64 r3) (.int .i64 (r4 + 1)) (far5 (c := w.heap.size) (set_far (c := b4) (k := 1) T3.out (by omega) (.int .i64 (r4 + 1))) (by omega) (.int .i64 0) (.int .i64 0) (.bool false) (.int .i64 0) (.int .i64 0)))
        refine bodyPost_ret (v := .tuple #[.agg #[.int .i64 0, .int .i64 0, .bool false, .int .i64 0, .int .i64 0], err r3 (r4 + 1)]) (by simp [results, Try.results160, go_sem, *]) rfl ?_
        exact ⟨by rw [E.out]; rfl, (by repeat' (first | (with_reducible exact Below.refl _ _) | (with_reducible assumption) | (with_reducible refine below_drewN ?_ _) | (with_reducible refine Below.drew ?_) | (with_reducible refine Below.alloc ?_ ?_ _) | (with_reducible refine Below.setCell ?_ ?_ _) | go_size))⟩
end Go.Proofs.Ytnpmgofkfdpbjaa.Tlv
