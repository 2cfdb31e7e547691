/- Joined texts: TlvD, TlvE, TlvF, TlvG, TlvH, PlTlvC. -/
import Derived.BigRegion
import Derived.Deep.RegionHeld3
import Derived.Test.YtoomdaljdbennaaKT
import Derived.Test.YtoomdaljdbennaaKA
import Derived.Test.YtoomdaljdbennaaKI
set_option linter.unusedSimpArgs false
set_option linter.unusedVariables false
/- Walks: length octets, read by the reference. -/
namespace Go.Proofs.Ytoomdaljdbennaa.Tlv
open Go.RowKit Kit

set_option maxRecDepth 100000 in
set_option maxHeartbeats 2000000 in
theorem refreadlen_any {A : Option Addr} {n c B : Nat} {l : List UInt8} (w : World) (hr : Rd w B A n l) (hB : B ≤ w.heap.size) (hc : n ≤ c) (hm : c ≤ maxLen) :
    Calls Try.prog 58 #[.slice A n c] w fun e w' => e = .returned (rlV (rl l)) ∧ Below w.heap.size w w' := by
  have hl := hr.len
  unfold maxLen at hm
  by_cases h0 : n = 0
  · have E := Lib.hid (rl_nil (hl.trans h0))
    rw [E.out]
    subst h0
    clear hr hl
    go_enter Try.func58, Try.ntmps58
    go_wp2
    refine bodyPost_ret (v := rlV (0, 0, 1, 0)) (by simp [results, Try.results58, go_sem, *]) rfl ?_
    exact ⟨rfl, (by repeat' (first | (with_reducible exact Below.refl _ _) | (with_reducible assumption) | (with_reducible refine below_drewN ?_ _) | (with_reducible refine Below.drew ?_) | (with_reducible refine Below.alloc ?_ ?_ _) | (with_reducible refine Below.setCell ?_ ?_ _) | go_size))⟩
  obtain ⟨ad, rfl, hab, hcell⟩ := hr.all_ (by omega)
  have c0 : w.cell? ad = some (.int .u8 (bt l 0)) := by
    have := hcell 0 (by omega)
    rwa [show ad.add 0 = ad from by unfold Addr.add; rw [if_pos rfl]] at this
  have hab' : ad.block < w.heap.size := by omega
  have b0 := bt_lo l 0
  have b1 := bt_hi l 0
  have h0' : ¬ (n : Int) = 0 := by omega
  by_cases h1 : bt l 0 < 128
  · have E := Lib.hid (rl_short (l := l) (by omega) h1)
    rw [E.out]
    generalize bt l 0 = b at *
    clear hr hl hcell
    go_enter Try.func58, Try.ntmps58
    go_wp2
    refine bodyPost_ret (v := rlV (b, 1, 0, 0)) (by simp [results, Try.results58, go_sem, *]) rfl ?_
    exact ⟨rfl, (by repeat' (first | (with_reducible exact Below.refl _ _) | (with_reducible assumption) | (with_reducible refine below_drewN ?_ _) | (with_reducible refine Below.drew ?_) | (with_reducible refine Below.alloc ?_ ?_ _) | (with_reducible refine Below.setCell ?_ ?_ _) | go_size))⟩
  by_cases h2 : bt l 0 = 128 ∨ 132 < bt l 0
  · have E := Lib.hid (rl_form (l := l) (by omega) h2)
    rw [E.out]
    clear hr hl hcell
    generalize bt l 0 = b at *
    have h2' : b = 128 ∨ (¬ b - 128 = 0 ∧ 5 ≤ b - 128) := by omega
    clear h2
    rcases h2' with rfl | ⟨h3, h4⟩
    all_goals
      go_enter Try.func58, Try.ntmps58
      go_wp2
      refine bodyPost_ret (v := rlV (0, 0, 4, 0)) (by simp [results, Try.results58, go_sem, *]) rfl ?_
      exact ⟨rfl, (by repeat' (first | (with_reducible exact Below.refl _ _) | (with_reducible assumption) | (with_reducible refine below_drewN ?_ _) | (with_reducible refine Below.drew ?_) | (with_reducible refine Below.alloc ?_ ?_ _) | (with_reducible refine Below.setCell ?_ ?_ _) | go_size))⟩
  obtain ⟨k, hk⟩ : ∃ k : Nat, bt l 0 = 128 + (k : Int) := ⟨(bt l 0 - 128).toNat, by omega⟩
  have k1 : 1 ≤ k := by omega
  have k4 : k ≤ 4 := by omega
  have h3 : ¬ (k : Int) = 0 := by omega
  have h4 : ¬ (5 : Int) ≤ (k : Int) := by omega
  have h4' : decide ((5 : Int) ≤ (k : Int)) = false := by rw [decide_eq_false_iff_not]; exact h4
  have ek : bt l 0 - 128 = (k : Int) := by omega
  by_cases h5 : n ≤ k
  · have E := Lib.hid (rl_cut (l := l) (by omega) hk k1 k4 (by omega))
    rw [E.out]
    clear hk h2 hr hcell
    subst hl
    generalize bt l 0 = b at *
    have h5' : (l.length : Int) < 1 + (k : Int) := by omega
    go_enter Try.func58, Try.ntmps58
    go_wp2
    refine bodyPost_ret (v := rlV (0, 0, 1, (l.length : Int))) (by simp [results, Try.results58, go_sem, *]) rfl ?_
    exact ⟨rfl, (by repeat' (first | (with_reducible exact Below.refl _ _) | (with_reducible assumption) | (with_reducible refine below_drewN ?_ _) | (with_reducible refine Below.drew ?_) | (with_reducible refine Below.alloc ?_ ?_ _) | (with_reducible refine Below.setCell ?_ ?_ _) | go_size))⟩
  have h5' : ¬ (n : Int) < 1 + (k : Int) := by omega
  obtain ⟨d, hd⟩ : ∃ d, (l.drop 1).take k = d := ⟨_, rfl⟩
  have hdl : d.length = k := by rw [← hd, List.length_take, List.length_drop]; omega
  have d256 : Cur.be d < 256 ^ 4 := Nat.lt_of_lt_of_le (Cur.be_lt d) (Nat.pow_le_pow_right (by omega) (by omega))
  have hcc : ¬ c = 1 := by omega
  have r1 := hr.cut (k := 1) (m := 1 + k) (cap := c) (by omega) (by omega) (by omega)
  rw [if_neg hcc, show 1 + k - 1 = k from by omega, hd] at r1
  have r1' : Rd w B (some ⟨ad.block, ad.off + 1, none⟩) k d := by rw [← add_one]; exact r1
  have r2 := hr.take (m := 1 + k) (by omega)
  have EB := Lib.hid (fun h => rl_bad (l := l) hk k1 k4 (by omega) h)
  have EO := Lib.hid (fun h => rl_ok (l := l) hk k1 k4 (by omega) h)
  have LI := Lib.hid (fun h => len_iff (l := l) hk k1 k4 (by omega) h)
  rw [hd] at EB EO LI
  have hu := (Cur.uint_yes (l := d) (Cur.be_lt8 (by omega))).1
  have UA := Lib.hid (fun (o : Obj) => Cur.refuint_any (some ⟨ad.block, ad.off + 1, none⟩) k (c - 1) d (w.alloc o) (r1'.alloc hB o) (by omega) (by unfold maxLen; omega))
  rw [hu] at UA
  have R2 := Lib.hid r2
  clear hk h2 hr hcell hd r1 r1' r2 hu
  generalize bt l 0 = b at *
  obtain ⟨v, hv⟩ : ∃ v, Cur.be d = v := ⟨_, rfl⟩
  rw [hv] at EB EO LI UA d256
  by_cases g3 : 2147483647 < v
  · have E := Lib.hid (EB.out (.inr (.inr g3)))
    have g3' : (2147483647 : Int) < (v : Int) := by omega
    clear EB EO LI
    go_enter Try.func58, Try.ntmps58
    go_wp2_with (first | (go_at_call 60; refine (UA.out _).mono ?_; rintro e w0 ⟨rfl, rfl⟩))
    refine bodyPost_ret (v := rlV (0, 0, 4, 0)) (by simp [results, Try.results58, go_sem, *]) rfl ?_
    exact ⟨by rw [E.out], (by repeat' (first | (with_reducible exact Below.refl _ _) | (with_reducible assumption) | (with_reducible refine below_drewN ?_ _) | (with_reducible refine Below.drew ?_) | (with_reducible refine Below.alloc ?_ ?_ _) | (with_reducible refine Below.setCell ?_ ?_ _) | go_size))⟩
  have LA := Lib.hid (fun w => reflength_any (v : Int) w)
  have g3' : ¬ (2147483647 : Int) < (v : Int) := by omega
  have g3'' : decide ((2147483647 : Int) < (v : Int)) = false := by rw [decide_eq_false_iff_not]; exact g3'
  have LB := len_bd (v : Int)
  have HI := Lib.hid (LI.out (by omega))
  obtain ⟨T, hT⟩ : ∃ T, l.take (1 + k) = T := ⟨_, rfl⟩
  rw [hT] at HI R2
  obtain ⟨L, hL⟩ : ∃ L, lenL (v : Int) = L := ⟨_, rfl⟩
  rw [hL] at HI LA LB
  have hcode : lenCode (v : Int) = 0 := by unfold lenCode; exact if_neg (by unfold lenBad; omega)
  rw [hcode] at LA
  obtain ⟨m, hm'⟩ : ∃ m, L.length = m := ⟨_, rfl⟩
  rw [hm'] at LA LB
  clear hT hL hcode hm' LI
  by_cases hz : L = T
  · have E := Lib.hid (EO.out (by have := HI.out.1 hz; omega))
    have HC := Lib.hid (Cur.cmpL_eq.2 hz)
    clear hz EB EO HI
    go_enter Try.func58, Try.ntmps58
    go_wp2_with (first | (go_at_call 60; refine (UA.out _).mono ?_; rintro e w0 ⟨rfl, rfl⟩) | (go_at_call 43; refine (LA.out _).mono ?_; rintro e w1 ⟨A1, c1, rfl, ho, hb⟩; obtain ⟨k0, k1', f0, f1, s1, hb1⟩ := two_new hb; have hrd1 := ho.rd; have hrd2 := ((R2.out.alloc hB (.cells #[.int .i64 0, .int .i64 0] 29)).more (by simp; omega)).past hb) | (go_at_call 61; refine (Cur.refcompare_any _ _ _ _ _ _ _ _ _ hrd1 hrd2 (by unfold maxLen; omega) (by unfold maxLen; omega)).mono ?_; rw [HC.out]; rintro e w2 ⟨rfl, q, rfl⟩))
    refine bodyPost_ret (v := rlV ((v : Int), 1 + (k : Int), 0, 0)) (by simp [results, Try.results58, go_sem, *]) rfl ?_
    exact ⟨by rw [E.out], (by repeat' (first | (with_reducible exact Below.refl _ _) | (with_reducible assumption) | (with_reducible refine below_drewN ?_ _) | (with_reducible refine Below.drew ?_) | (with_reducible refine Below.alloc ?_ ?_ _) | (with_reducible refine Below.setCell ?_ ?_ _) | go_size))⟩
  · have E := Lib.hid (EB.out (by
      by_cases hh : bt l 1 = 0 ∨ v < 128
      · omega
      · exact absurd (HI.out.2 hh) hz))
    obtain ⟨cv, hcv⟩ : ∃ cv, Cur.cmpL L T = cv := ⟨_, rfl⟩
    have hcz : ¬ cv = 0 := fun h => hz (Cur.cmpL_eq.1 (by rw [hcv]; exact h))
    have HC := Lib.hid hcv
    clear hz EB EO HI hcv
    go_enter Try.func58, Try.ntmps58
    go_wp2_with (first | (go_at_call 60; refine (UA.out _).mono ?_; rintro e w0 ⟨rfl, rfl⟩) | (go_at_call 43; refine (LA.out _).mono ?_; rintro e w1 ⟨A1, c1, rfl, ho, hb⟩; obtain ⟨k0, k1', f0, f1, s1, hb1⟩ := two_new hb; have hrd1 := ho.rd; have hrd2 := ((R2.out.alloc hB (.cells #[.int .i64 0, .int .i64 0] 29)).more (by simp; omega)).past hb) | (go_at_call 61; refine (Cur.refcompare_any _ _ _ _ _ _ _ _ _ hrd1 hrd2 (by unfold maxLen; omega) (by unfold maxLen; omega)).mono ?_; rw [HC.out]; rintro e w2 ⟨rfl, q, rfl⟩))
    refine bodyPost_ret (v := rlV (0, 0, 4, 0)) (by simp [results, Try.results58, go_sem, *]) rfl ?_
    exact ⟨by rw [E.out], (by repeat' (first | (with_reducible exact Below.refl _ _) | (with_reducible assumption) | (with_reducible refine below_drewN ?_ _) | (with_reducible refine Below.drew ?_) | (with_reducible refine Below.alloc ?_ ?_ _) | (with_reducible refine Below.setCell ?_ ?_ _) | go_size))⟩
end Go.Proofs.Ytoomdaljdbennaa.Tlv
/- Walks: headers, read by tlv and by its reference. -/
namespace Go.Proofs.Ytoomdaljdbennaa.Tlv
open Go.RowKit Kit

/-- a header, and an error -/
structure Hd where
  cls : Int
  num : Int
  cons : Bool
  len : Int
  size : Int
def Hd.zero : Hd := ⟨0, 0, false, 0, 0⟩
abbrev hdV (h : Hd) : Value := .agg #[.int .i64 h.cls, .int .i64 h.num, .bool h.cons, .int .i64 h.len, .int .i64 h.size]
/-- what ReadHeader reads: a header, an error's code and offset -/
def rh (l : List UInt8) : Hd × Int × Int :=
  if l.length = 0 then (Hd.zero, 1, 0)
  else if ridE (bt l 0) ≠ 0 then (Hd.zero, 3, 0)
  else if (rl (l.drop 1)).2.2.1 ≠ 0 then (Hd.zero, (rl (l.drop 1)).2.2.1, (rl (l.drop 1)).2.2.2 + 1)
  else (⟨ridC (bt l 0), ridN (bt l 0), ridB (bt l 0), (rl (l.drop 1)).1, 1 + (rl (l.drop 1)).2.1⟩, 0, 0)
abbrev rhV (r : Hd × Int × Int) : Value := .tuple #[hdV r.1, err r.2.1 r.2.2]
theorem rl_bd (l : List UInt8) (hl : l.length ≤ 140737488355328) : 0 ≤ (rl l).1 ∧ (rl l).1 ≤ 2147483647 ∧ 0 ≤ (rl l).2.1 ∧ (rl l).2.1 ≤ 5 ∧ 0 ≤ (rl l).2.2.1 ∧ (rl l).2.2.1 ≤ 4 ∧ 0 ≤ (rl l).2.2.2 ∧ (rl l).2.2.2 ≤ l.length := by
  have := bt_lo l 0
  unfold rl
  repeat' split
  all_goals simp only []
  all_goals omega
theorem cells5 {w : World} {b : Nat} {x0 x1 x2 x3 x4 : Value} {t : TypeId} (h : w.heap[b]? = some (.cells #[x0, x1, x2, x3, x4] t (0, 0))) :
    w.cell? ⟨b, 0, none⟩ = some x0 ∧ w.cell? ⟨b, 1, none⟩ = some x1 ∧ w.cell? ⟨b, 2, none⟩ = some x2 ∧ w.cell? ⟨b, 3, none⟩ = some x3 ∧ w.cell? ⟨b, 4, none⟩ = some x4 := by
  refine ⟨?_, ?_, ?_, ?_, ?_⟩ <;> (rw [cell_of_row w b _ _ _ _ h]; rfl)
theorem free5 {w : World} {b : Nat} {cs : Array Value} {t : TypeId} (h : w.heap[b]? = some (.cells cs t (0, 0))) :
    w.frozen? ⟨b, 0, none⟩ = false ∧ w.frozen? ⟨b, 1, none⟩ = false ∧ w.frozen? ⟨b, 2, none⟩ = false ∧ w.frozen? ⟨b, 3, none⟩ = false ∧ w.frozen? ⟨b, 4, none⟩ = false :=
  ⟨frozen_of_row w b 0 _ _ h, frozen_of_row w b 1 _ _ h, frozen_of_row w b 2 _ _ h, frozen_of_row w b 3 _ _ h, frozen_of_row w b 4 _ _ h⟩
theorem cells2 {w : World} {b : Nat} {x0 x1 : Value} {t : TypeId} (h : w.heap[b]? = some (.cells #[x0, x1] t (0, 0))) :
    w.cell? ⟨b, 0, none⟩ = some x0 ∧ w.cell? ⟨b, 1, none⟩ = some x1 := by
  refine ⟨?_, ?_⟩ <;> (rw [cell_of_row w b _ _ _ _ h]; rfl)
/-- two blocks, just laid, behind a call -/
theorem box2 {w w1 : World} {o0 o1 : Obj} (hb : Below ((w.alloc o0).alloc o1).heap.size ((w.alloc o0).alloc o1) w1) :
    w1.heap[w.heap.size]? = some o0 ∧ w1.heap[w.heap.size + 1]? = some o1 ∧ Below w.heap.size w w1 := by
  refine ⟨(hb.block _ (by simp; omega)).trans ((Below.heap_alloc _ o1 _ (by simp)).trans (heap_alloc_new w o0)), (hb.block _ (by simp)).trans ?_, ?_⟩
  · have := heap_alloc_new (w.alloc o0) o1
    simpa using this
  · exact (((Below.refl _ _).alloc (Nat.le_refl _) _).alloc (by simp) _).trans (hb.mono (by simp; omega))
theorem bk_new {w : World} {b : Nat} {o : Obj} (h : b = w.heap.size) : (w.alloc o).heap[b]? = some o := by subst h; exact heap_alloc_new w o
theorem bk_old {w : World} {b : Nat} {o o' : Obj} (h : w.heap[b]? = some o) : (w.alloc o').heap[b]? = some o := (Below.heap_alloc w o' b (Blk_lt h)).trans h
theorem set5 {w : World} {b : Nat} {x0 x1 x2 x3 x4 : Value} {t : TypeId} (y0 y1 y2 y3 y4 : Value) (h : w.heap[b]? = some (.cells #[x0, x1, x2, x3, x4] t (0, 0))) :
    (((((w.setCell ⟨b, 0, none⟩ y0).setCell ⟨b, 1, none⟩ y1).setCell ⟨b, 2, none⟩ y2).setCell ⟨b, 3, none⟩ y3).setCell ⟨b, 4, none⟩ y4).heap[b]? = some (.cells #[y0, y1, y2, y3, y4] t (0, 0)) :=
  heap_setCell_same _ b 4 _ _ y4 (heap_setCell_same _ b 3 _ _ y3 (heap_setCell_same _ b 2 _ _ y2 (heap_setCell_same _ b 1 _ _ y1 (heap_setCell_same _ b 0 _ _ y0 h))))
theorem set2 {w : World} {b : Nat} {x0 x1 : Value} {t : TypeId} (y0 y1 : Value) (h : w.heap[b]? = some (.cells #[x0, x1] t (0, 0))) :
    ((w.setCell ⟨b, 0, none⟩ y0).setCell ⟨b, 1, none⟩ y1).heap[b]? = some (.cells #[y0, y1] t (0, 0)) :=
  heap_setCell_same _ b 1 _ _ y1 (heap_setCell_same _ b 0 _ _ y0 h)
theorem set_far {w : World} {b c k : Nat} {o : Obj} (h : w.heap[b]? = some o) (hne : b ≠ c) (y : Value) : (w.setCell ⟨c, k, none⟩ y).heap[b]? = some o := by
  rw [heap_setCell_other _ _ _ _ hne]; exact h
theorem far5 {w : World} {b c : Nat} {o : Obj} (h : w.heap[b]? = some o) (hne : b ≠ c) (y0 y1 y2 y3 y4 : Value) :
    (((((w.setCell ⟨c, 0, none⟩ y0).setCell ⟨c, 1, none⟩ y1).setCell ⟨c, 2, none⟩ y2).setCell ⟨c, 3, none⟩ y3).setCell ⟨c, 4, none⟩ y4).heap[b]? = some o :=
  set_far (set_far (set_far (set_far (set_far h hne _) hne _) hne _) hne _) hne _
theorem far2 {w : World} {b c : Nat} {o : Obj} (h : w.heap[b]? = some o) (hne : b ≠ c) (y0 y1 : Value) : ((w.setCell ⟨c, 0, none⟩ y0).setCell ⟨c, 1, none⟩ y1).heap[b]? = some o :=
  set_far (set_far h hne _) hne _
/-- b[1:] -/
theorem tail_rd {w : World} {B n c : Nat} {ad : Addr} {l : List UInt8} (h : Rd w B (some ad) n l) (hn : 1 ≤ n) (hc : n ≤ c) :
    (c = 1 → Rd w B (some ad) (n - 1) (l.drop 1)) ∧ (¬ c = 1 → Rd w B (some ⟨ad.block, ad.off + 1, none⟩) (n - 1) (l.drop 1)) := by
  have hr := h.cut (k := 1) (m := n) (cap := c) hn (Nat.le_refl _) hc
  rw [List.take_of_length_le (by rw [List.length_drop, h.len]; exact Nat.le_refl _)] at hr
  refine ⟨fun e => by rw [if_pos e] at hr; exact hr, fun e => ?_⟩
  rw [if_neg e] at hr
  rw [← add_one]; exact hr

set_option maxRecDepth 100000 in
set_option maxHeartbeats 2000000 in
theorem readhead_any {A : Option Addr} {n c B : Nat} {l : List UInt8} (w : World) (hr : Rd w B A n l) (hB : B ≤ w.heap.size) (hc : n ≤ c) (hm : c ≤ maxLen) (hn : n ≤ 140737488355328) :
    Calls Try.prog 45 #[.slice A n c] w fun e w' => e = .returned (rhV (rh l)) ∧ Below w.heap.size w w' := by
  have hl := hr.len
  by_cases h0 : n = 0
  · have E := Lib.hid (show rh l = (Hd.zero, 1, 0) from by unfold rh; rw [if_pos (hl.trans h0)])
    rw [E.out]
    subst h0
    clear hr hl
    go_enter Try.func45, Try.ntmps45
    go_wp2
    refine bodyPost_ret (v := .tuple #[.agg #[.int .i64 0, .int .i64 0, .bool false, .int .i64 0, .int .i64 0], err 1 0]) (by simp [results, Try.results45, go_sem, *]) rfl ?_
    exact ⟨rfl, (by repeat' (first | (with_reducible exact Below.refl _ _) | (with_reducible assumption) | (with_reducible refine below_drewN ?_ _) | (with_reducible refine Below.drew ?_) | (with_reducible refine Below.alloc ?_ ?_ _) | (with_reducible refine Below.setCell ?_ ?_ _) | go_size))⟩
  obtain ⟨ad, rfl, hab, hcell⟩ := hr.all_ (by omega)
  have c0 : w.cell? ad = some (.int .u8 (bt l 0)) := by
    have := hcell 0 (by omega)
    rwa [show ad.add 0 = ad from by unfold Addr.add; rw [if_pos rfl]] at this
  have hab' : ad.block < w.heap.size := by omega
  have hab2 : ad.block < w.heap.size + 1 := by omega
  have b0 := bt_lo l 0
  have b1 := bt_hi l 0
  have h0' : ¬ (n : Int) = 0 := by omega
  have RI := Lib.hid (fun w => readid_any (bt l 0) w b0 b1)
  by_cases hx : bt l 0 % 32 = 31
  · obtain ⟨e1, e2, e3, e4⟩ := rid_bad hx
    have E := Lib.hid (show rh l = (Hd.zero, 3, 0) from by unfold rh; rw [if_neg (by omega), if_pos (by rw [e4]; decide)])
    rw [E.out]
    rw [e1, e2, e3, e4] at RI
    clear hr hl hcell e1 e2 e3 e4 hx
    generalize bt l 0 = b at *
    go_enter Try.func45, Try.ntmps45
    go_wp2_with (go_at_call 51; refine (RI.out _).mono ?_; rintro e w' ⟨rfl, rfl⟩)
    refine bodyPost_ret (v := .tuple #[.agg #[.int .i64 0, .int .i64 0, .bool false, .int .i64 0, .int .i64 0], err 3 0]) (by simp [results, Try.results45, go_sem, *]) rfl ?_
    exact ⟨rfl, (by repeat' (first | (with_reducible exact Below.refl _ _) | (with_reducible assumption) | (with_reducible refine below_drewN ?_ _) | (with_reducible refine Below.drew ?_) | (with_reducible refine Below.alloc ?_ ?_ _) | (with_reducible refine Below.setCell ?_ ?_ _) | go_size))⟩
  have e4 := (rid_ok hx).2.2.2
  obtain ⟨T1, T2⟩ := tail_rd hr (by omega) hc
  have hrb := rl_bd (l.drop 1) (by rw [List.length_drop]; omega)
  have hdl : (l.drop 1).length ≤ 140737488355328 := by rw [List.length_drop]; omega
  have EB := Lib.hid (fun (h : (rl (l.drop 1)).2.2.1 ≠ 0) => show rh l = (Hd.zero, (rl (l.drop 1)).2.2.1, (rl (l.drop 1)).2.2.2 + 1) from by unfold rh; rw [if_neg (by omega), if_neg (by rw [e4]; simp), if_pos h])
  have EO := Lib.hid (fun (h : ¬ (rl (l.drop 1)).2.2.1 ≠ 0) => show rh l = (⟨ridC (bt l 0), ridN (bt l 0), ridB (bt l 0), (rl (l.drop 1)).1, 1 + (rl (l.drop 1)).2.1⟩, 0, 0) from by unfold rh; rw [if_neg (by omega), if_neg (by rw [e4]; simp), if_neg h])
  rw [e4] at RI
  have RL := Lib.hid (fun (A : Option Addr) (k c : Nat) (w' : World) (h : Rd w' B A k (l.drop 1)) (hB : B ≤ w'.heap.size) (hc : k ≤ c) (hm : c ≤ maxLen) => readlen_any (c := c) w' h hB hc hm)
  generalize rl (l.drop 1) = r at *
  obtain ⟨r1, r2, r3, r4⟩ := r
  simp only [rlV] at RL EB EO hrb
  have hm' := hm
  unfold maxLen at hm'
  have TP := Lib.hid T1
  have TN := Lib.hid T2
  clear T1 T2 hr hcell hx e4
  obtain ⟨ci, hci⟩ : ∃ x, ridC (bt l 0) = x := ⟨_, rfl⟩
  obtain ⟨ni, hni⟩ : ∃ x, ridN (bt l 0) = x := ⟨_, rfl⟩
  obtain ⟨bi, hbi⟩ : ∃ x, ridB (bt l 0) = x := ⟨_, rfl⟩
  rw [hci, hni, hbi] at EO
  rw [hci, hni, hbi] at RI
  clear hci hni hbi
  generalize bt l 0 = b at *
  go_enter Try.func45, Try.ntmps45
  go_upto_region 6 with (first | (go_at_call 51; refine (RI.out _).mono ?_; rintro e w' ⟨rfl, rfl⟩))
  by_cases hcc : c = 1
  · have RT := Lib.hid (TP.out hcc)
    clear TP TN
    obtain rfl : n = 1 := by omega
    subst hcc
    go_upto_region 7 with (first | (go_at_call 52; refine (RL.out _ _ _ _ (((RT.out).alloc hB _).alloc (by simp; omega) _) (by simp; omega) (by omega) (by unfold maxLen; omega)).mono ?_; rintro e w1 ⟨rfl, hb⟩))
    obtain ⟨t2, t3, bel⟩ := box2 hb
    have hs := hb.size
    simp only [World.size_alloc] at hs
    have t4 : (w1.alloc (.cells #[.int .i64 r3, .int .i64 r4] 29)).heap[w1.heap.size]? = _ := bk_new rfl
    replace t2 := bk_old (o' := .cells #[.int .i64 r3, .int .i64 r4] 29) t2
    replace t3 := bk_old (o' := .cells #[.int .i64 r3, .int .i64 r4] 29) t3
    replace bel := bel.alloc bel.size (.cells #[.int .i64 r3, .int .i64 r4] 29)
    have n1 : ¬ w1.heap.size = w.heap.size := by omega
    have n2 : ¬ w1.heap.size = w.heap.size + 1 := by omega
    have n3 : ¬ w.heap.size = w1.heap.size := by omega
    have n4 : ¬ w.heap.size + 1 = w1.heap.size := by omega
    have hwb : w.heap.size ≤ w1.heap.size := by omega
    clear hb hs RT
    generalize hg : w1.heap.size = b4 at *
    clear hg
    generalize w1.alloc (.cells #[.int .i64 r3, .int .i64 r4] 29) = w2 at *
    clear w1
    have T2 := Lib.hid t2
    have T3 := Lib.hid t3
    have T4 := Lib.hid t4
    obtain ⟨q0, q1, q2, q3, q4⟩ := cells5 t2
    obtain ⟨f0, f1, f2, f3, f4⟩ := free5 t2
    obtain ⟨s0, s1⟩ := cells2 t3
    obtain ⟨g0, g1, _, _, _⟩ := free5 t3
    obtain ⟨u0, u1⟩ := cells2 t4
    obtain ⟨h0, h1, _, _, _⟩ := free5 t4
    clear t2 t3 t4
    by_cases hz : r3 = 0
    · have E := Lib.hid (EO.out (fun h => h hz))
      subst hz
      go_wp2
      clear q0 q1 q2 q3 q4 f0 f1 f2 f3 f4 s0 s1 g0 g1 u0 u1 h0 h1
      have tc := cells5 (far2 (c := w.heap.size + 1) (set5 (.int .i64 ci) (.int .i64 ni) (.bool bi) (.int .i64 r1) (.int .i64 (1 + r2)) T2.out) (by omega) (.int .i64 0) (.int .i64 0))
      have td := cells2 (set2 (.int .i64 0) (.int .i64 0) (far5 (c := w.heap.size) T3.out (by omega) (.int .i64 ci) (.int .i64 ni) (.bool bi) (.int .i64 r1) (.int .i64 (1 + r2))))
      refine bodyPost_ret (v := .tuple #[.agg #[.int .i64 ci, .int .i64 ni, .bool bi, .int .i64 r1, .int .i64 (1 + r2)], err 0 0]) (by simp [results, Try.results45, go_sem, *]) rfl ?_
      exact ⟨by rw [E.out], (by repeat' (first | (with_reducible exact Below.refl _ _) | (with_reducible assumption) | (with_reducible refine below_drewN ?_ _) | (with_reducible refine Below.drew ?_) | (with_reducible refine Below.alloc ?_ ?_ _) | (with_reducible refine Below.setCell ?_ ?_ _) | go_size))⟩
    · have E := Lib.hid (EB.out hz)
      have wr4 : IntKind.i64.wrap (r4 + 1) = r4 + 1 := IntWalk.i64_in _ (by omega)
      go_upto_region 9 with fail
      go_region
      all_goals
        go_wp2
        clear q0 q1 q2 q3 q4 f0 f1 f2 f3 f4 s0 s1 g0 g1 u0 u1 h0 h1
        have tc := cells5 (far2 (c := w.heap.size + 1) (set5 (.int .i64 0) (.int .i64 0) (.bool false) (.int .i64 0) (.int .i64 0) (set_far (c := b4) (k := 1) T2.out (by omega) (.int .i64 (r4 + 1)))) (by omega) (.int .i64 r3) (.int .i64 (r4 + 1)))
        have td := cells2 (set2 (.int .i64 r3) (.int .i64 (r4 + 1)) (far5 (c := w.heap.size) (set_far (c := b4) (k := 1) T3.out (by omega) (.int .i64 (r4 + 1))) (by omega) (.int .i64 0) (.int .i64 0) (.bool false) (.int .i64 0) (.int .i64 0)))
        refine bodyPost_ret (v := .tuple #[.agg #[.int .i64 0, .int .i64 0, .bool false, .int .i64 0, .int .i64 0], err r3 (r4 + 1)]) (by simp [results, Try.results45, go_sem, *]) rfl ?_
        exact ⟨by rw [E.out]; rfl, (by repeat' (first | (with_reducible exact Below.refl _ _) | (with_reducible assumption) | (with_reducible refine below_drewN ?_ _) | (with_reducible refine Below.drew ?_) | (with_reducible refine Below.alloc ?_ ?_ _) | (with_reducible refine Below.setCell ?_ ?_ _) | go_size))⟩
  · have RT := Lib.hid (TN.out hcc)
    clear TP TN
    go_upto_region 7 with (first | (go_at_call 52; refine (RL.out _ _ _ _ (((RT.out).alloc hB _).alloc (by simp; omega) _) (by simp; omega) (by omega) (by unfold maxLen; omega)).mono ?_; rintro e w1 ⟨rfl, hb⟩))
    obtain ⟨t2, t3, bel⟩ := box2 hb
    have hs := hb.size
    simp only [World.size_alloc] at hs
    have t4 : (w1.alloc (.cells #[.int .i64 r3, .int .i64 r4] 29)).heap[w1.heap.size]? = _ := bk_new rfl
    replace t2 := bk_old (o' := .cells #[.int .i64 r3, .int .i64 r4] 29) t2
    replace t3 := bk_old (o' := .cells #[.int .i64 r3, .int .i64 r4] 29) t3
    replace bel := bel.alloc bel.size (.cells #[.int .i64 r3, .int .i64 r4] 29)
    have n1 : ¬ w1.heap.size = w.heap.size := by omega
    have n2 : ¬ w1.heap.size = w.heap.size + 1 := by omega
    have n3 : ¬ w.heap.size = w1.heap.size := by omega
    have n4 : ¬ w.heap.size + 1 = w1.heap.size := by omega
    have hwb : w.heap.size ≤ w1.heap.size := by omega
    clear hb hs RT
    generalize hg : w1.heap.size = b4 at *
    clear hg
    generalize w1.alloc (.cells #[.int .i64 r3, .int .i64 r4] 29) = w2 at *
    clear w1
    have T2 := Lib.hid t2
    have T3 := Lib.hid t3
    have T4 := Lib.hid t4
    obtain ⟨q0, q1, q2, q3, q4⟩ := cells5 t2
    obtain ⟨f0, f1, f2, f3, f4⟩ := free5 t2
    obtain ⟨s0, s1⟩ := cells2 t3
    obtain ⟨g0, g1, _, _, _⟩ := free5 t3
    obtain ⟨u0, u1⟩ := cells2 t4
    obtain ⟨h0, h1, _, _, _⟩ := free5 t4
    clear t2 t3 t4
    by_cases hz : r3 = 0
    · have E := Lib.hid (EO.out (fun h => h hz))
      subst hz
      go_wp2
      clear q0 q1 q2 q3 q4 f0 f1 f2 f3 f4 s0 s1 g0 g1 u0 u1 h0 h1
      have tc := cells5 (far2 (c := w.heap.size + 1) (set5 (.int .i64 ci) (.int .i64 ni) (.bool bi) (.int .i64 r1) (.int .i64 (1 + r2)) T2.out) (by omega) (.int .i64 0) (.int .i64 0))
      have td := cells2 (set2 (.int .i64 0) (.int .i64 0) (far5 (c := w.heap.size) T3.out (by omega) (.int .i64 ci) (.int .i64 ni) (.bool bi) (.int .i64 r1) (.int .i64 (1 + r2))))
      refine bodyPost_ret (v := .tuple #[.agg #[.int .i64 ci, .int .i64 ni, .bool bi, .int .i64 r1, .int .i64 (1 + r2)], err 0 0]) (by simp [results, Try.results45, go_sem, *]) rfl ?_
      exact ⟨by rw [E.out], (by repeat' (first | (with_reducible exact Below.refl _ _) | (with_reducible assumption) | (with_reducible refine below_drewN ?_ _) | (with_reducible refine Below.drew ?_) | (with_reducible refine Below.alloc ?_ ?_ _) | (with_reducible refine Below.setCell ?_ ?_ _) | go_size))⟩
    · have E := Lib.hid (EB.out hz)
      have wr4 : IntKind.i64.wrap (r4 + 1) = r4 + 1 := IntWalk.i64_in _ (by omega)
      go_upto_region 9 with fail
      go_region
      all_goals
        go_wp2
        clear q0 q1 q2 q3 q4 f0 f1 f2 f3 f4 s0 s1 g0 g1 u0 u1 h0 h1
        have tc := cells5 (far2 (c := w.heap.size + 1) (set5 (.int .i64 0) (.int .i64 0) (.bool false) (.int .i64 0) (.int .i64 0) (set_far (c := b4) (k := 1) T2.out (by omega) (.int .i64 (r4 + 1)))) (by omega) (.int .i64 r3) (.int .i64 (r4 + 1)))
        have td := cells2 (set2 (.int .i64 r3) (.int .i64 (r4 + 1)) (far5 (c := w.heap.size) (set_far (c := b4) (k := 1) T3.out (by omega) (.int .i64 (r4 + 1))) (by omega) (.int .i64 0) (.int .i64 0) (.bool false) (.int .i64 0) (.int .i64 0)))
        refine bodyPost_ret (v := .tuple #[.agg #[.int .i64 0, .int .i64 0, .bool false, .int .i64 0, .int .i64 0], err r3 (r4 + 1)]) (by simp [results, Try.results45, go_sem, *]) rfl ?_
        exact ⟨by rw [E.out]; rfl, (by repeat' (first | (with_reducible exact Below.refl _ _) | (with_reducible assumption) | (with_reducible refine below_drewN ?_ _) | (with_reducible refine Below.drew ?_) | (with_reducible refine Below.alloc ?_ ?_ _) | (with_reducible refine Below.setCell ?_ ?_ _) | go_size))⟩
end Go.Proofs.Ytoomdaljdbennaa.Tlv
/- Walks: headers, read by the reference. -/
namespace Go.Proofs.Ytoomdaljdbennaa.Tlv
open Go.RowKit Kit

set_option maxRecDepth 100000 in
set_option maxHeartbeats 2000000 in
theorem refreadhead_any {A : Option Addr} {n c B : Nat} {l : List UInt8} (w : World) (hr : Rd w B A n l) (hB : B ≤ w.heap.size) (hc : n ≤ c) (hm : c ≤ maxLen) (hn : n ≤ 140737488355328) :
    Calls Try.prog 53 #[.slice A n c] w fun e w' => e = .returned (rhV (rh l)) ∧ Below w.heap.size w w' := by
  have hl := hr.len
  by_cases h0 : n = 0
  · have E := Lib.hid (show rh l = (Hd.zero, 1, 0) from by unfold rh; rw [if_pos (hl.trans h0)])
    rw [E.out]
    subst h0
    clear hr hl
    go_enter Try.func53, Try.ntmps53
    go_wp2
    refine bodyPost_ret (v := .tuple #[.agg #[.int .i64 0, .int .i64 0, .bool false, .int .i64 0, .int .i64 0], err 1 0]) (by simp [results, Try.results53, go_sem, *]) rfl ?_
    exact ⟨rfl, (by repeat' (first | (with_reducible exact Below.refl _ _) | (with_reducible assumption) | (with_reducible refine below_drewN ?_ _) | (with_reducible refine Below.drew ?_) | (with_reducible refine Below.alloc ?_ ?_ _) | (with_reducible refine Below.setCell ?_ ?_ _) | go_size))⟩
  obtain ⟨ad, rfl, hab, hcell⟩ := hr.all_ (by omega)
  have c0 : w.cell? ad = some (.int .u8 (bt l 0)) := by
    have := hcell 0 (by omega)
    rwa [show ad.add 0 = ad from by unfold Addr.add; rw [if_pos rfl]] at this
  have hab' : ad.block < w.heap.size := by omega
  have hab2 : ad.block < w.heap.size + 1 := by omega
  have b0 := bt_lo l 0
  have b1 := bt_hi l 0
  have h0' : ¬ (n : Int) = 0 := by omega
  have RI := Lib.hid (fun w => refreadid_any (bt l 0) w b0 b1)
  by_cases hx : bt l 0 % 32 = 31
  · obtain ⟨e1, e2, e3, e4⟩ := rid_bad hx
    have E := Lib.hid (show rh l = (Hd.zero, 3, 0) from by unfold rh; rw [if_neg (by omega), if_pos (by rw [e4]; decide)])
    rw [E.out]
    rw [e1, e2, e3, e4] at RI
    clear hr hl hcell e1 e2 e3 e4 hx
    generalize bt l 0 = b at *
    go_enter Try.func53, Try.ntmps53
    go_wp2_with (go_at_call 57; refine (RI.out _).mono ?_; rintro e w' ⟨rfl, rfl⟩)
    refine bodyPost_ret (v := .tuple #[.agg #[.int .i64 0, .int .i64 0, .bool false, .int .i64 0, .int .i64 0], err 3 0]) (by simp [results, Try.results53, go_sem, *]) rfl ?_
    exact ⟨rfl, (by repeat' (first | (with_reducible exact Below.refl _ _) | (with_reducible assumption) | (with_reducible refine below_drewN ?_ _) | (with_reducible refine Below.drew ?_) | (with_reducible refine Below.alloc ?_ ?_ _) | (with_reducible refine Below.setCell ?_ ?_ _) | go_size))⟩
  have e4 := (rid_ok hx).2.2.2
  obtain ⟨T1, T2⟩ := tail_rd hr (by omega) hc
  have hrb := rl_bd (l.drop 1) (by rw [List.length_drop]; omega)
  have hdl : (l.drop 1).length ≤ 140737488355328 := by rw [List.length_drop]; omega
  have EB := Lib.hid (fun (h : (rl (l.drop 1)).2.2.1 ≠ 0) => show rh l = (Hd.zero, (rl (l.drop 1)).2.2.1, (rl (l.drop 1)).2.2.2 + 1) from by unfold rh; rw [if_neg (by omega), if_neg (by rw [e4]; simp), if_pos h])
  have EO := Lib.hid (fun (h : ¬ (rl (l.drop 1)).2.2.1 ≠ 0) => show rh l = (⟨ridC (bt l 0), ridN (bt l 0), ridB (bt l 0), (rl (l.drop 1)).1, 1 + (rl (l.drop 1)).2.1⟩, 0, 0) from by unfold rh; rw [if_neg (by omega), if_neg (by rw [e4]; simp), if_neg h])
  rw [e4] at RI
  have RL := Lib.hid (fun (A : Option Addr) (k c : Nat) (w' : World) (h : Rd w' B A k (l.drop 1)) (hB : B ≤ w'.heap.size) (hc : k ≤ c) (hm : c ≤ maxLen) => refreadlen_any (c := c) w' h hB hc hm)
  generalize rl (l.drop 1) = r at *
  obtain ⟨r1, r2, r3, r4⟩ := r
  simp only [rlV] at RL EB EO hrb
  have hm' := hm
  unfold maxLen at hm'
  have TP := Lib.hid T1
  have TN := Lib.hid T2
  clear T1 T2 hr hcell hx e4
  obtain ⟨ci, hci⟩ : ∃ x, ridC (bt l 0) = x := ⟨_, rfl⟩
  obtain ⟨ni, hni⟩ : ∃ x, ridN (bt l 0) = x := ⟨_, rfl⟩
  obtain ⟨bi, hbi⟩ : ∃ x, ridB (bt l 0) = x := ⟨_, rfl⟩
  rw [hci, hni, hbi] at EO
  rw [hci, hni, hbi] at RI
  clear hci hni hbi
  generalize bt l 0 = b at *
  go_enter Try.func53, Try.ntmps53
  go_upto_region 6 with (first | (go_at_call 57; refine (RI.out _).mono ?_; rintro e w' ⟨rfl, rfl⟩))
  by_cases hcc : c = 1
  · have RT := Lib.hid (TP.out hcc)
    clear TP TN
    obtain rfl : n = 1 := by omega
    subst hcc
    go_upto_region 7 with (first | (go_at_call 58; refine (RL.out _ _ _ _ (((RT.out).alloc hB _).alloc (by simp; omega) _) (by simp; omega) (by omega) (by unfold maxLen; omega)).mono ?_; rintro e w1 ⟨rfl, hb⟩))
    obtain ⟨t2, t3, bel⟩ := box2 hb
    have hs := hb.size
    simp only [World.size_alloc] at hs
    have t4 : (w1.alloc (.cells #[.int .i64 r3, .int .i64 r4] 29)).heap[w1.heap.size]? = _ := bk_new rfl
    replace t2 := bk_old (o' := .cells #[.int .i64 r3, .int .i64 r4] 29) t2
    replace t3 := bk_old (o' := .cells #[.int .i64 r3, .int .i64 r4] 29) t3
    replace bel := bel.alloc bel.size (.cells #[.int .i64 r3, .int .i64 r4] 29)
    have n1 : ¬ w1.heap.size = w.heap.size := by omega
    have n2 : ¬ w1.heap.size = w.heap.size + 1 := by omega
    have n3 : ¬ w.heap.size = w1.heap.size := by omega
    have n4 : ¬ w.heap.size + 1 = w1.heap.size := by omega
    have hwb : w.heap.size ≤ w1.heap.size := by omega
    clear hb hs RT
    generalize hg : w1.heap.size = b4 at *
    clear hg
    generalize w1.alloc (.cells #[.int .i64 r3, .int .i64 r4] 29) = w2 at *
    clear w1
    have T2 := Lib.hid t2
    have T3 := Lib.hid t3
    have T4 := Lib.hid t4
    obtain ⟨q0, q1, q2, q3, q4⟩ := cells5 t2
    obtain ⟨f0, f1, f2, f3, f4⟩ := free5 t2
    obtain ⟨s0, s1⟩ := cells2 t3
    obtain ⟨g0, g1, _, _, _⟩ := free5 t3
    obtain ⟨u0, u1⟩ := cells2 t4
    obtain ⟨h0, h1, _, _, _⟩ := free5 t4
    clear t2 t3 t4
    by_cases hz : r3 = 0
    · have E := Lib.hid (EO.out (fun h => h hz))
      subst hz
      go_wp2
      clear q0 q1 q2 q3 q4 f0 f1 f2 f3 f4 s0 s1 g0 g1 u0 u1 h0 h1
      have tc := cells5 (far2 (c := w.heap.size + 1) (set5 (.int .i64 ci) (.int .i64 ni) (.bool bi) (.int .i64 r1) (.int .i64 (1 + r2)) T2.out) (by omega) (.int .i64 0) (.int .i64 0))
      have td := cells2 (set2 (.int .i64 0) (.int .i64 0) (far5 (c := w.heap.size) T3.out (by omega) (.int .i64 ci) (.int .i64 ni) (.bool bi) (.int .i64 r1) (.int .i64 (1 + r2))))
      refine bodyPost_ret (v := .tuple #[.agg #[.int .i64 ci, .int .i64 ni, .bool bi, .int .i64 r1, .int .i64 (1 + r2)], err 0 0]) (by simp [results, Try.results53, go_sem, *]) rfl ?_
      exact ⟨by rw [E.out], (by repeat' (first | (with_reducible exact Below.refl _ _) | (with_reducible assumption) | (with_reducible refine below_drewN ?_ _) | (with_reducible refine Below.drew ?_) | (with_reducible refine Below.alloc ?_ ?_ _) | (with_reducible refine Below.setCell ?_ ?_ _) | go_size))⟩
    · have E := Lib.hid (EB.out hz)
      have wr4 : IntKind.i64.wrap (r4 + 1) = r4 + 1 := IntWalk.i64_in _ (by omega)
      go_upto_region 8 with fail
      go_region
      all_goals
        go_wp2
        clear q0 q1 q2 q3 q4 f0 f1 f2 f3 f4 s0 s1 g0 g1 u0 u1 h0 h1
        have tc := cells5 (far2 (c := w.heap.size + 1) (set5 (.int .i64 0) (.int .i64 0) (.bool false) (.int .i64 0) (.int .i64 0) T2.out) (by omega) (.int .i64 r3) (.int .i64 (r4 + 1)))
        have td := cells2 (set2 (.int .i64 r3) (.int .i64 (r4 + 1)) (far5 (c := w.heap.size) T3.out (by omega) (.int .i64 0) (.int .i64 0) (.bool false) (.int .i64 0) (.int .i64 0)))
        refine bodyPost_ret (v := .tuple #[.agg #[.int .i64 0, .int .i64 0, .bool false, .int .i64 0, .int .i64 0], err r3 (r4 + 1)]) (by simp [results, Try.results53, go_sem, *]) rfl ?_
        exact ⟨by rw [E.out]; rfl, (by repeat' (first | (with_reducible exact Below.refl _ _) | (with_reducible assumption) | (with_reducible refine below_drewN ?_ _) | (with_reducible refine Below.drew ?_) | (with_reducible refine Below.alloc ?_ ?_ _) | (with_reducible refine Below.setCell ?_ ?_ _) | go_size))⟩
  · have RT := Lib.hid (TN.out hcc)
    clear TP TN
    go_upto_region 7 with (first | (go_at_call 58; refine (RL.out _ _ _ _ (((RT.out).alloc hB _).alloc (by simp; omega) _) (by simp; omega) (by omega) (by unfold maxLen; omega)).mono ?_; rintro e w1 ⟨rfl, hb⟩))
    obtain ⟨t2, t3, bel⟩ := box2 hb
    have hs := hb.size
    simp only [World.size_alloc] at hs
    have t4 : (w1.alloc (.cells #[.int .i64 r3, .int .i64 r4] 29)).heap[w1.heap.size]? = _ := bk_new rfl
    replace t2 := bk_old (o' := .cells #[.int .i64 r3, .int .i64 r4] 29) t2
    replace t3 := bk_old (o' := .cells #[.int .i64 r3, .int .i64 r4] 29) t3
    replace bel := bel.alloc bel.size (.cells #[.int .i64 r3, .int .i64 r4] 29)
    have n1 : ¬ w1.heap.size = w.heap.size := by omega
    have n2 : ¬ w1.heap.size = w.heap.size + 1 := by omega
    have n3 : ¬ w.heap.size = w1.heap.size := by omega
    have n4 : ¬ w.heap.size + 1 = w1.heap.size := by omega
    have hwb : w.heap.size ≤ w1.heap.size := by omega
    clear hb hs RT
    generalize hg : w1.heap.size = b4 at *
    clear hg
    generalize w1.alloc (.cells #[.int .i64 r3, .int .i64 r4] 29) = w2 at *
    clear w1
    have T2 := Lib.hid t2
    have T3 := Lib.hid t3
    have T4 := Lib.hid t4
    obtain ⟨q0, q1, q2, q3, q4⟩ := cells5 t2
    obtain ⟨f0, f1, f2, f3, f4⟩ := free5 t2
    obtain ⟨s0, s1⟩ := cells2 t3
    obtain ⟨g0, g1, _, _, _⟩ := free5 t3
    obtain ⟨u0, u1⟩ := cells2 t4
    obtain ⟨h0, h1, _, _, _⟩ := free5 t4
    clear t2 t3 t4
    by_cases hz : r3 = 0
    · have E := Lib.hid (EO.out (fun h => h hz))
      subst hz
      go_wp2
      clear q0 q1 q2 q3 q4 f0 f1 f2 f3 f4 s0 s1 g0 g1 u0 u1 h0 h1
      have tc := cells5 (far2 (c := w.heap.size + 1) (set5 (.int .i64 ci) (.int .i64 ni) (.bool bi) (.int .i64 r1) (.int .i64 (1 + r2)) T2.out) (by omega) (.int .i64 0) (.int .i64 0))
      have td := cells2 (set2 (.int .i64 0) (.int .i64 0) (far5 (c := w.heap.size) T3.out (by omega) (.int .i64 ci) (.int .i64 ni) (.bool bi) (.int .i64 r1) (.int .i64 (1 + r2))))
      refine bodyPost_ret (v := .tuple #[.agg #[.int .i64 ci, .int .i64 ni, .bool bi, .int .i64 r1, .int .i64 (1 + r2)], err 0 0]) (by simp [results, Try.results53, go_sem, *]) rfl ?_
      exact ⟨by rw [E.out], (by repeat' (first | (with_reducible exact Below.refl _ _) | (with_reducible assumption) | (with_reducible refine below_drewN ?_ _) | (with_reducible refine Below.drew ?_) | (with_reducible refine Below.alloc ?_ ?_ _) | (with_reducible refine Below.setCell ?_ ?_ _) | go_size))⟩
    · have E := Lib.hid (EB.out hz)
      have wr4 : IntKind.i64.wrap (r4 + 1) = r4 + 1 := IntWalk.i64_in _ (by omega)
      go_upto_region 8 with fail
      go_region
      all_goals
        go_wp2
        clear q0 q1 q2 q3 q4 f0 f1 f2 f3 f4 s0 s1 g0 g1 u0 u1 h0 h1
        have tc := cells5 (far2 (c := w.heap.size + 1) (set5 (.int .i64 0) (.int .i64 0) (.bool false) (.int .i64 0) (.int .i64 0) T2.out) (by omega) (.int .i64 r3) (.int .i64 (r4 + 1)))
        have td := cells2 (set2 (.int .i64 r3) (.int .i64 (r4 + 1)) (far5 (c := w.heap.size) T3.out (by omega) (.int .i64 0) (.int .i64 0) (.bool false) (.int .i64 0) (.int .i64 0)))
        refine bodyPost_ret (v := .tuple #[.agg #[.int .i64 0, .int .i64 0, .bool false, .int .i64 0, .int .i64 0], err r3 (r4 + 1)]) (by simp [results, Try.results53, go_sem, *]) rfl ?_
        exact ⟨by rw [E.out]; rfl, (by repeat' (first | (with_reducible exact Below.refl _ _) | (with_reducible assumption) | (with_reducible refine below_drewN ?_ _) | (with_reducible refine Below.drew ?_) | (with_reducible refine Below.alloc ?_ ?_ _) | (with_reducible refine Below.setCell ?_ ?_ _) | go_size))⟩
end Go.Proofs.Ytoomdaljdbennaa.Tlv
/- Walks: elements, encoded by tlv and by its reference. -/
namespace Go.Proofs.Ytoomdaljdbennaa.Tlv
open Go.RowKit Kit

/-- an element, and its error -/
def encCode (c n : Int) (k : Nat) : Int := if idCode c n ≠ 0 then idCode c n else lenCode k
def encL (c : Int) (b : Bool) (n : Int) (l : List UInt8) : List UInt8 := if encCode c n l.length ≠ 0 then [] else ofI (idByte c b n) :: (lenL l.length ++ l)
theorem enc_bad1 {c n : Int} (b : Bool) (l : List UInt8) (h : idCode c n ≠ 0) : encL c b n l = [] ∧ encCode c n l.length = idCode c n := by
  have e : encCode c n l.length = idCode c n := by unfold encCode; rw [if_pos h]
  exact ⟨by unfold encL; rw [e, if_pos h], e⟩
theorem enc_bad2 {c n : Int} (b : Bool) (l : List UInt8) (h : idCode c n = 0) (h2 : lenCode l.length ≠ 0) : encL c b n l = [] ∧ encCode c n l.length = lenCode l.length := by
  have e : encCode c n l.length = lenCode l.length := by unfold encCode; rw [if_neg (by omega)]
  exact ⟨by unfold encL; rw [e, if_pos h2], e⟩
theorem enc_ok {c n : Int} (b : Bool) (l : List UInt8) (h : idCode c n = 0) (h2 : lenCode l.length = 0) : encL c b n l = ofI (idByte c b n) :: (lenL l.length ++ l) ∧ encCode c n l.length = 0 := by
  have e : encCode c n l.length = 0 := by unfold encCode; rw [if_neg (by omega), h2]
  exact ⟨by unfold encL; rw [e, if_neg (by omega)], e⟩

set_option maxRecDepth 100000 in
set_option maxHeartbeats 2000000 in
theorem encode_any {A : Option Addr} {k cp B : Nat} {l : List UInt8} (c n : Int) (b : Bool) (w : World) (hr : Rd w B A k l) (hB : B ≤ w.heap.size) (hk : k ≤ 140737488355000) :
    Calls Try.prog 39 #[.int .i64 c, .bool b, .int .i64 n, .slice A k cp] w fun e w' => ∃ A' c', e = .returned (.tuple #[.slice A' (encL c b n l).length c', .int .i64 (encCode c n l.length)]) ∧ Own w' w.heap.size A' (encL c b n l).length c' (encL c b n l) ∧ Below w.heap.size w w' := by
  have hl := hr.len
  subst hl
  have ID := Lib.hid (fun w => ident_any c n b w)
  have LN := Lib.hid (fun w => length_any (l.length : Int) w)
  by_cases h1 : idCode c n ≠ 0
  · obtain ⟨e1, e2⟩ := enc_bad1 b l h1
    have F := Lib.hid e2
    rw [e1, List.length_nil]
    generalize idCode c n = ic at *
    clear e1 e2 hr
    go_enter Try.func39, Try.ntmps39
    go_wp2_with (go_at_call 40; refine (ID.out _).mono ?_; rintro e w' ⟨rfl, rfl⟩)
    go_ret2
    exact ⟨none, 0, ret2 rfl (vint F.out.symm), Own.none_ _ _, (by repeat' (first | (with_reducible exact Below.refl _ _) | (with_reducible assumption) | (with_reducible refine below_drewN ?_ _) | (with_reducible refine Below.drew ?_) | (with_reducible refine Below.alloc ?_ ?_ _) | (with_reducible refine Below.setCell ?_ ?_ _) | go_size))⟩
  have h1' : idCode c n = 0 := by omega
  by_cases h2 : lenCode l.length ≠ 0
  · obtain ⟨e1, e2⟩ := enc_bad2 b l h1' h2
    have F := Lib.hid e2
    rw [e1, List.length_nil]
    rw [h1'] at ID
    generalize lenCode l.length = lc at *
    clear e1 e2 hr h1 h1'
    go_enter Try.func39, Try.ntmps39
    go_wp2_with (first | (go_at_call 40; refine (ID.out _).mono ?_; rintro e w' ⟨rfl, rfl⟩) | (go_at_call 47; refine (LN.out _).mono ?_; rintro e w1 ⟨A1, c1, rfl, ho, hb⟩))
    go_ret2
    exact ⟨none, 0, ret2 rfl (vint F.out.symm), Own.none_ _ _, hb⟩
  have h2' : lenCode l.length = 0 := by omega
  obtain ⟨e1, e2⟩ := enc_ok b l h1' h2'
  have F1 := Lib.hid e1
  have F2 := Lib.hid e2
  rw [h1'] at ID
  rw [h2'] at LN
  obtain ⟨x0, x1⟩ := id_bd c b n
  have lb := len_bd (l.length : Int)
  generalize idByte c b n = x at *
  generalize lenL l.length = L at *
  obtain ⟨m, hm⟩ : ∃ m, L.length = m := ⟨_, rfl⟩
  rw [hm] at LN lb
  have HM := Lib.hid hm
  have HR := Lib.hid hr
  clear e1 e2 hr h1 h1' h2 h2' hm
  go_enter Try.func39, Try.ntmps39
  go_upto_region 7 with (first | (go_at_call 40; refine (ID.out _).mono ?_; rintro e w' ⟨rfl, rfl⟩) | (go_at_call 47; refine (LN.out _).mono ?_; rintro e w1 ⟨A1, c1, rfl, ho, hb⟩))
  have zs := hb.size
  have hx : Rd (w1.alloc (.cells #[.int .u8 x] 5)) (w1.heap.size + 1) (some ⟨w1.heap.size, 0, none⟩) 1 [ofI x] := Rd.litE w1 [x] [ofI x] w1.heap.size 1 rfl (in1 x0 x1) rfl rfl
  have r0 := hx.alloc (by simp) (.cells #[.slice (some ⟨w1.heap.size, 0, none⟩) 1 1, .slice A1 m c1, .slice A l.length cp] 22)
  have r1 := ((ho.rd.alloc (Nat.le_refl _) (.cells #[.int .u8 x] 5)).alloc (by simp) (.cells #[.slice (some ⟨w1.heap.size, 0, none⟩) 1 1, .slice A1 m c1, .slice A l.length cp] 22)).more (B' := w1.heap.size + 1) (by omega)
  have r2 := (((HR.out.below (hb.mono hB)).alloc (by omega) (.cells #[.int .u8 x] 5)).alloc (by simp; omega) (.cells #[.slice (some ⟨w1.heap.size, 0, none⟩) 1 1, .slice A1 m c1, .slice A l.length cp] 22)).more (B' := w1.heap.size + 1) (by omega)
  have CN := Lib.hid (Cur.concat3_any (cc := 3) (g := w1.heap.size + 1) ((w1.alloc (.cells #[.int .u8 x] 5)).alloc (.cells #[.slice (some ⟨w1.heap.size, 0, none⟩) 1 1, .slice A1 m c1, .slice A l.length cp] 22)) (bk_new (by simp)) r0 r1 r2 (by simp) (by omega) (by omega))
  have bel2 : Below w.heap.size w ((w1.alloc (.cells #[.int .u8 x] 5)).alloc (.cells #[.slice (some ⟨w1.heap.size, 0, none⟩) 1 1, .slice A1 m c1, .slice A l.length cp] 22)) := (hb.alloc zs _).alloc (by simp; omega) _
  clear r0 r1 r2 hx ho HR
  go_wp2_with (go_at_call 48; refine CN.out.mono ?_; rintro e w2 ⟨A3, c3, rfl, ho3, hb3⟩)
  go_ret2
  have el : (encL c b n l).length = 1 + m + l.length := by rw [F1.out, List.length_cons, List.length_append, HM.out]; omega
  rw [el]
  refine ⟨A3, c3, ret2 rfl (vint F2.out.symm), ?_, bel2.trans (hb3.mono bel2.size)⟩
  rw [F1.out]
  exact (ho3.mono bel2.size)

end Go.Proofs.Ytoomdaljdbennaa.Tlv
/- Walks: the element at the beginning, read by the reference. -/
namespace Go.Proofs.Ytoomdaljdbennaa.Tlv
open Go.RowKit Kit

theorem rh_bd (l : List UInt8) (hl : l.length ≤ 140737488355328) : 0 ≤ (rh l).1.len ∧ (rh l).1.len ≤ 2147483647 ∧ 0 ≤ (rh l).1.size ∧ (rh l).1.size ≤ 6 ∧ 0 ≤ (rh l).2.1 ∧ (rh l).2.1 ≤ 4 ∧ 0 ≤ (rh l).2.2 ∧ (rh l).2.2 ≤ l.length := by
  have hb := rl_bd (l.drop 1) (by rw [List.length_drop]; omega)
  rw [List.length_drop] at hb
  unfold rh
  repeat' split
  all_goals simp only [Hd.zero]
  all_goals omega
/-- the element at the beginning: header, contents, rest, an error's code and offset -/
structure Nx where
  hd : Hd
  con : List UInt8
  rest : List UInt8
  code : Int
  off : Int
def nx (l : List UInt8) : Nx :=
  if (rh l).2.1 ≠ 0 then ⟨Hd.zero, [], [], (rh l).2.1, (rh l).2.2⟩
  else if (l.length : Int) - (rh l).1.size < (rh l).1.len then ⟨Hd.zero, [], [], 1, l.length⟩
  else ⟨(rh l).1, (l.drop (rh l).1.size.toNat).take (rh l).1.len.toNat, l.drop ((rh l).1.size.toNat + (rh l).1.len.toNat), 0, 0⟩
theorem ret4' {a b c d a' b' c' d' : Value} (h1 : a = a') (h2 : b = b') (h3 : c = c') (h4 : d = d') : Value.tuple #[a, b, c, d] = .tuple #[a', b', c', d'] := by rw [h1, h2, h3, h4]

/-- what the reference's Next returns: its slices lie in the argument -/
def NxR (B : Nat) (w : World) (l : List UInt8) (e : Ending) (w' : World) : Prop :=
  ∃ A1 c1 A2 c2, e = .returned (.tuple #[hdV (nx l).hd, .slice A1 (nx l).con.length c1, .slice A2 (nx l).rest.length c2, err (nx l).code (nx l).off]) ∧
    Rd w' B A1 (nx l).con.length (nx l).con ∧ Rd w' B A2 (nx l).rest.length (nx l).rest ∧ Below w.heap.size w w'

set_option maxRecDepth 100000 in
set_option maxHeartbeats 4000000 in
theorem refnext_any {A : Option Addr} {n c B : Nat} {l : List UInt8} (w : World) (hr : Rd w B A n l) (hB : B ≤ w.heap.size) (hc : n ≤ c) (hm : c ≤ maxLen) (hn : n ≤ 140737488355328) :
    Calls Try.prog 46 #[.slice A n c] w (NxR B w l) := by
  have hl := hr.len
  obtain ⟨d1, d2, d3, d4, d5, d6, d7, d8⟩ := rh_bd l (by omega)
  have RH := Lib.hid (fun (w' : World) (h : Rd w' B A n l) (hB : B ≤ w'.heap.size) => refreadhead_any (c := c) w' h hB hc hm hn)
  have hm' := hm
  unfold maxLen at hm'
  have HR := Lib.hid hr
  have N1 := Lib.hid (fun (h : (rh l).2.1 ≠ 0) => show nx l = ⟨Hd.zero, [], [], (rh l).2.1, (rh l).2.2⟩ from by unfold nx; rw [if_pos h])
  have N2 := Lib.hid (fun (h : ¬ (rh l).2.1 ≠ 0) (h2 : (l.length : Int) - (rh l).1.size < (rh l).1.len) => show nx l = ⟨Hd.zero, [], [], 1, l.length⟩ from by unfold nx; rw [if_neg h, if_pos h2])
  have N3 := Lib.hid (fun (h : ¬ (rh l).2.1 ≠ 0) (h2 : ¬ (l.length : Int) - (rh l).1.size < (rh l).1.len) => show nx l = ⟨(rh l).1, (l.drop (rh l).1.size.toNat).take (rh l).1.len.toNat, l.drop ((rh l).1.size.toNat + (rh l).1.len.toNat), 0, 0⟩ from by unfold nx; rw [if_neg h, if_neg h2])
  generalize rh l = r at *
  obtain ⟨⟨k1, k2, k3, k4, k5⟩, r1, r2⟩ := r
  simp only [rhV, hdV] at RH N1 N2 N3 d1 d2 d3 d4 d5 d6 d7 d8
  clear hr
  go_enter Try.func46, Try.ntmps46
  go_upto_region 2 with (first | (go_at_call 53; refine (RH.out _ ((HR.out.alloc hB _).alloc (by simp; omega) _) (by simp; omega)).mono ?_; rintro e w1 ⟨rfl, hb⟩))
  obtain ⟨t2, t5, bel⟩ := box2 hb
  have hs := hb.size
  simp only [World.size_alloc] at hs
  replace t2 := bk_old (o' := .cells #[.int .i64 r1, .int .i64 r2] 29) (bk_old (o' := .cells #[.int .i64 k1, .int .i64 k2, .bool k3, .int .i64 k4, .int .i64 k5] 70) t2)
  replace t5 := bk_old (o' := .cells #[.int .i64 r1, .int .i64 r2] 29) (bk_old (o' := .cells #[.int .i64 k1, .int .i64 k2, .bool k3, .int .i64 k4, .int .i64 k5] 70) t5)
  have t6 : ((w1.alloc (.cells #[.int .i64 k1, .int .i64 k2, .bool k3, .int .i64 k4, .int .i64 k5] 70)).alloc (.cells #[.int .i64 r1, .int .i64 r2] 29)).heap[w1.heap.size]? = _ := bk_old (bk_new rfl)
  have t7 : ((w1.alloc (.cells #[.int .i64 k1, .int .i64 k2, .bool k3, .int .i64 k4, .int .i64 k5] 70)).alloc (.cells #[.int .i64 r1, .int .i64 r2] 29)).heap[w1.heap.size + 1]? = _ := bk_new (by simp)
  replace bel := (bel.alloc bel.size (.cells #[.int .i64 k1, .int .i64 k2, .bool k3, .int .i64 k4, .int .i64 k5] 70)).alloc (by simp; have := bel.size; omega) (.cells #[.int .i64 r1, .int .i64 r2] 29)
  have n1 : ¬ w1.heap.size = w.heap.size := by omega
  have n2 : ¬ w1.heap.size = w.heap.size + 1 := by omega
  have n3 : ¬ w.heap.size = w1.heap.size := by omega
  have n4 : ¬ w.heap.size + 1 = w1.heap.size := by omega
  have m1 : ¬ w1.heap.size + 1 = w.heap.size := by omega
  have m2 : ¬ w1.heap.size + 1 = w.heap.size + 1 := by omega
  have m3 : ¬ w.heap.size = w1.heap.size + 1 := by omega
  have m4 : ¬ w.heap.size + 1 = w1.heap.size + 1 := by omega
  clear hb hs RH
  generalize hg7 : w1.heap.size + 1 = b7 at *
  generalize hg6 : w1.heap.size = b6 at *
  clear hg6 hg7
  generalize (w1.alloc (.cells #[.int .i64 k1, .int .i64 k2, .bool k3, .int .i64 k4, .int .i64 k5] 70)).alloc (.cells #[.int .i64 r1, .int .i64 r2] 29) = w2 at *
  clear w1
  have RW := Lib.hid (HR.out.below (bel.mono hB))
  have T2 := Lib.hid t2
  have T5 := Lib.hid t5
  obtain ⟨q0, q1, q2, q3, q4⟩ := cells5 t2
  obtain ⟨f0, f1, f2, f3, f4⟩ := free5 t2
  obtain ⟨s0, s1⟩ := cells2 t5
  obtain ⟨g0, g1, _, _, _⟩ := free5 t5
  obtain ⟨u0, u1, u2, u3, u4⟩ := cells5 t6
  obtain ⟨v0, v1⟩ := cells2 t7
  clear t2 t5 t6 t7
  by_cases hz : r1 = 0
  · subst hz
    obtain ⟨sz, rfl⟩ := Int.eq_ofNat_of_zero_le d3
    obtain ⟨m, rfl⟩ := Int.eq_ofNat_of_zero_le d1
    by_cases hcut : (n : Int) - (sz : Int) < (m : Int)
    · have E := Lib.hid (N2.out (by decide) (by rw [hl]; exact hcut))
      clear N1 N2 N3 HR RW
      go_wp2
      clear q0 q1 q2 q3 q4 f0 f1 f2 f3 f4 s0 s1 g0 g1 u0 u1 u2 u3 u4 v0 v1
      have tc := cells5 (far2 (c := w.heap.size + 1) (set5 (.int .i64 0) (.int .i64 0) (.bool false) (.int .i64 0) (.int .i64 0) T2.out) (by omega) (.int .i64 1) (.int .i64 (n : Int)))
      have td := cells2 (set2 (.int .i64 1) (.int .i64 (n : Int)) (far5 (c := w.heap.size) T5.out (by omega) (.int .i64 0) (.int .i64 0) (.bool false) (.int .i64 0) (.int .i64 0)))
      refine bodyPost_ret (v := .tuple #[.agg #[.int .i64 0, .int .i64 0, .bool false, .int .i64 0, .int .i64 0], .slice none 0 0, .slice none 0 0, err 1 (n : Int)]) (by simp [results, Try.results46, go_sem, *]) rfl ?_
      unfold NxR
      rw [E.out, hl]
      exact ⟨none, 0, none, 0, rfl, Rd.nil_, Rd.nil_, (by repeat' (first | (with_reducible exact Below.refl _ _) | (with_reducible assumption) | (with_reducible refine below_drewN ?_ _) | (with_reducible refine Below.drew ?_) | (with_reducible refine Below.alloc ?_ ?_ _) | (with_reducible refine Below.setCell ?_ ?_ _) | go_size))⟩
    · have E := Lib.hid (N3.out (by decide) (by rw [hl]; omega))
      simp only [Int.toNat_natCast] at E
      clear N1 N2 N3 HR
      have x1 : (sz : Int) ≤ (sz : Int) + (m : Int) := by omega
      have x2 : (sz : Int) + (m : Int) ≤ (n : Int) := by omega
      have x3 : (sz : Int) + (m : Int) ≤ (c : Int) := by omega
      go_upto_region 6 with fail
      have hnn : (0:Int) ≤ (sz : Int) + (m : Int) := by omega
      have wr6 : IntKind.i64.wrap ((sz : Int) + (m : Int)) = (sz : Int) + (m : Int) := IntWalk.i64_in _ (by omega)
      go_region_held3 (fun w' => w'.cell? ⟨b6, 0, none⟩ = some (.int .i64 k1) ∧ w'.cell? ⟨b6, 1, none⟩ = some (.int .i64 k2) ∧ w'.cell? ⟨b6, 2, none⟩ = some (.bool k3) ∧ w'.cell? ⟨b6, 3, none⟩ = some (.int .i64 (m : Int)) ∧ w'.cell? ⟨b6, 4, none⟩ = some (.int .i64 (sz : Int))) (go_keep) (fail)
      rename_i hheld
      clear wr6 hnn hheld
      rw [show ((sz : Int) + (m : Int)).toNat = sz + m from by omega]
      have R1 := RW.out.cut (k := sz) (m := sz + m) (cap := c) (by omega) (by omega) (by omega)
      have R2 := RW.out.cut (k := sz + m) (m := n) (cap := c) (by omega) (Nat.le_refl _) hc
      simp only [Nat.mul_one, Nat.add_sub_cancel_left] at R1 R2 ⊢
      rw [List.take_of_length_le (by rw [List.length_drop, hl]; exact Nat.le_refl _)] at R2
      generalize (if c = sz then A else Option.map (fun x => x.add sz) A) = A1 at *
      generalize (if c = sz + m then A else Option.map (fun x => x.add (sz + m)) A) = A2 at *
      have L1 := R1.len
      have L2 := R2.len
      have R1' := Lib.hid R1
      have R2' := Lib.hid R2
      clear R1 R2
      go_wp2
      clear q0 q1 q2 q3 q4 f0 f1 f2 f3 f4 s0 s1 g0 g1 u0 u1 u2 u3 u4 v0 v1
      have tc := cells5 (far2 (c := w.heap.size + 1) (set5 (.int .i64 k1) (.int .i64 k2) (.bool k3) (.int .i64 (m : Int)) (.int .i64 (sz : Int)) T2.out) (by omega) (.int .i64 0) (.int .i64 0))
      have td := cells2 (set2 (.int .i64 0) (.int .i64 0) (far5 (c := w.heap.size) T5.out (by omega) (.int .i64 k1) (.int .i64 k2) (.bool k3) (.int .i64 (m : Int)) (.int .i64 (sz : Int))))
      refine bodyPost_ret (v := .tuple #[.agg #[.int .i64 k1, .int .i64 k2, .bool k3, .int .i64 (m : Int), .int .i64 (sz : Int)], .slice A1 m (c - sz), .slice A2 (n - (sz + m)) (c - (sz + m)), err 0 0]) (by simp [results, Try.results46, go_sem, *]) rfl ?_
      unfold NxR
      rw [E.out]
      refine ⟨A1, c - sz, A2, c - (sz + m), ?_, ?_, ?_, (by repeat' (first | (with_reducible exact Below.refl _ _) | (with_reducible assumption) | (with_reducible refine below_drewN ?_ _) | (with_reducible refine Below.drew ?_) | (with_reducible refine Below.alloc ?_ ?_ _) | (with_reducible refine Below.setCell ?_ ?_ _) | go_size))⟩
      · simp only [L1, L2]
      · simp only [L1]
        exact ((((((((R1'.out).setCell (by simp; omega) _).setCell (by simp; omega) _).setCell (by simp; omega) _).setCell (by simp; omega) _).setCell (by simp; omega) _).setCell (by simp; omega) _).setCell (by simp; omega) _).drew
      · simp only [L2]
        exact ((((((((R2'.out).setCell (by simp; omega) _).setCell (by simp; omega) _).setCell (by simp; omega) _).setCell (by simp; omega) _).setCell (by simp; omega) _).setCell (by simp; omega) _).setCell (by simp; omega) _).drew
  · have E := Lib.hid (N1.out hz)
    clear N1 N2 N3 HR RW
    go_upto_region 3 with fail
    go_region
    all_goals
      go_wp2
      clear q0 q1 q2 q3 q4 f0 f1 f2 f3 f4 s0 s1 g0 g1 u0 u1 u2 u3 u4 v0 v1
      have tc := cells5 (far2 (c := w.heap.size + 1) (set5 (.int .i64 0) (.int .i64 0) (.bool false) (.int .i64 0) (.int .i64 0) T2.out) (by omega) (.int .i64 r1) (.int .i64 r2))
      have td := cells2 (set2 (.int .i64 r1) (.int .i64 r2) (far5 (c := w.heap.size) T5.out (by omega) (.int .i64 0) (.int .i64 0) (.bool false) (.int .i64 0) (.int .i64 0)))
      refine bodyPost_ret (v := .tuple #[.agg #[.int .i64 0, .int .i64 0, .bool false, .int .i64 0, .int .i64 0], .slice none 0 0, .slice none 0 0, err r1 r2]) (by simp [results, Try.results46, go_sem, *]) rfl ?_
      unfold NxR
      rw [E.out]
      exact ⟨none, 0, none, 0, rfl, Rd.nil_, Rd.nil_, (by repeat' (first | (with_reducible exact Below.refl _ _) | (with_reducible assumption) | (with_reducible refine below_drewN ?_ _) | (with_reducible refine Below.drew ?_) | (with_reducible refine Below.alloc ?_ ?_ _) | (with_reducible refine Below.setCell ?_ ?_ _) | go_size))⟩
end Go.Proofs.Ytoomdaljdbennaa.Tlv
/- Plain laws of lengths and elements: what is written is read back, what is read is written so. No program in sight. -/
namespace Go.Proofs.Ytoomdaljdbennaa.Tlv
open Kit Cur

theorem w31 {n : Int} (h : lenCode n = 0) : 0 ≤ n ∧ n ≤ 2147483647 := by
  unfold lenCode at h
  by_cases hb : lenBad n
  · rw [if_pos hb] at h; omega
  · unfold lenBad at hb; omega
theorem lenCode_ok {n : Int} (h0 : 0 ≤ n) (h1 : n ≤ 2147483647) : lenCode n = 0 := by
  unfold lenCode; rw [if_neg (by unfold lenBad; omega)]
theorem lenCode_01 (n : Int) : lenCode n = 0 ∨ lenCode n = 9 := by unfold lenCode; split <;> simp
theorem idCode_01 (c n : Int) : idCode c n = 0 ∨ idCode c n = 9 := by unfold idCode; split <;> simp
theorem bt_cons0 (x : UInt8) (l : List UInt8) : bt (x :: l) 0 = (x.toNat : Int) := rfl
theorem bt_cons1 (x : UInt8) (l : List UInt8) (k : Nat) : bt (x :: l) (k + 1) = bt l k := rfl
theorem bt_app {l m : List UInt8} {k : Nat} (h : k < l.length) : bt (l ++ m) k = bt l k := by
  unfold bt; simp [List.getD, List.getElem?_append_left h]

/-- a length, written and read -/
theorem rl_len {n : Int} (h : lenCode n = 0) (more : List UInt8) : rl (lenL n ++ more) = (n, ((lenL n).length : Int), 0, 0) ∧ 1 ≤ (lenL n).length ∧ (lenL n).length ≤ 5 := by
  obtain ⟨h0, h1⟩ := w31 h
  obtain ⟨v, rfl⟩ := Int.eq_ofNat_of_zero_le h0
  by_cases hs : (v : Int) < 128
  · have hv : v < 128 := by omega
    obtain ⟨e, _⟩ := len_short h0 hs
    rw [Int.toNat_natCast, minL_small (by omega)] at e
    rw [e]
    refine ⟨?_, by simp, by simp⟩
    have hb : bt ([UInt8.ofNat v] ++ more) 0 = (v : Int) := by
      rw [List.singleton_append, bt_cons0]; simp [UInt8.toNat_ofNat]; omega
    rw [rl_short (by simp) (by rw [hb]; exact hs), hb]
    rfl
  · obtain ⟨e, _⟩ := len_long (n := (v : Int)) (by omega) h1
    rw [Int.toNat_natCast] at e
    have hW : v < W64 := by unfold W64; omega
    have l1 := minL_len v
    have l2 := minL_lo v (by omega) hW
    have l3 := be_minL hW
    have l4 := minL_head (n := v) (by omega) hW
    obtain ⟨m, hm⟩ : ∃ m, minL v = m := ⟨_, rfl⟩
    rw [hm] at e l1 l2 l3 l4
    rw [e]
    obtain ⟨k, hk⟩ : ∃ k, m.length = k := ⟨_, rfl⟩
    rw [hk] at l1 l2 ⊢
    have hk4 : k ≤ 4 := by
      rcases Nat.lt_or_ge k 5 with h | h
      · omega
      · exfalso
        have : (256 : Nat) ^ 4 ≤ 256 ^ (k - 1) := Nat.pow_le_pow_right (by omega) (by omega)
        omega
    have hk1 : 1 ≤ k := by
      rcases Nat.eq_zero_or_pos k with h | h
      · have : m = [] := List.eq_nil_of_length_eq_zero (by omega)
        subst this
        rw [be_nil] at l3
        omega
      · exact h
    have hb0 : bt ((ofI (128 + (k : Int)) :: m) ++ more) 0 = 128 + (k : Int) := by
      rw [List.cons_append, bt_cons0, ofI_toNat (by omega) (by omega)]
    have hd : (((ofI (128 + (k : Int)) :: m) ++ more).drop 1).take k = m := by
      rw [List.cons_append, List.drop_succ_cons, List.drop_zero, List.take_append_of_le_length (by omega), List.take_of_length_le (by omega)]
    have hb1 : bt ((ofI (128 + (k : Int)) :: m) ++ more) 1 = bt m 0 := by
      rw [List.cons_append, bt_cons1, bt_app (by omega)]
    refine ⟨?_, by simp, by simp; omega⟩
    rw [rl_ok hb0 hk1 hk4 (by simp; omega) (by rw [hd, hb1, l3]; omega), hd, l3]
    simp [hk]
    omega

theorem cons_of {l : List UInt8} (h : ¬ l.length = 0) : ∃ x t, l = x :: t := by
  cases l with
  | nil => exact absurd rfl h
  | cons x t => exact ⟨x, t, rfl⟩
/-- a length, read and written -/
theorem rl_read {l : List UInt8} (h : (rl l).2.2.1 = 0) : lenCode (rl l).1 = 0 ∧ 1 ≤ (rl l).2.1 ∧ (rl l).2.1 ≤ l.length ∧ lenL (rl l).1 = l.take (rl l).2.1.toNat ∧ (rl l).2.2.2 = 0 := by
  by_cases h0 : l.length = 0
  · rw [rl_nil h0] at h; simp at h
  by_cases h1 : bt l 0 < 128
  · rw [rl_short (by omega) h1]
    have b0 := bt_lo l 0
    refine ⟨lenCode_ok b0 (by simp only []; omega), by simp, by simp only []; omega, ?_, rfl⟩
    simp only []
    rw [(len_short b0 h1).1]
    obtain ⟨x, t, rfl⟩ := cons_of h0
    rw [bt_cons0] at h1 ⊢
    rw [Int.toNat_natCast, minL_small (by omega)]
    simp
  by_cases h2 : bt l 0 = 128 ∨ 132 < bt l 0
  · rw [rl_form (by omega) h2] at h; simp at h
  obtain ⟨k, hk⟩ : ∃ k : Nat, bt l 0 = 128 + (k : Int) := ⟨(bt l 0 - 128).toNat, by omega⟩
  by_cases h3 : l.length ≤ k
  · rw [rl_cut (by omega) hk (by omega) (by omega) h3] at h; simp at h
  by_cases h4 : bt l 1 = 0 ∨ be ((l.drop 1).take k) < 128 ∨ 2147483647 < be ((l.drop 1).take k)
  · rw [rl_bad hk (by omega) (by omega) (by omega) h4] at h; simp at h
  rw [rl_ok hk (by omega) (by omega) (by omega) h4]
  obtain ⟨d, hd⟩ : ∃ d, (l.drop 1).take k = d := ⟨_, rfl⟩
  have hdl : d.length = k := by rw [← hd, List.length_take, List.length_drop]; omega
  have hd0 : bt d 0 = bt l 1 := by rw [← hd, bt_take (by omega), bt_drop]
  rw [hd] at h4 ⊢
  have hm : minL (be d) = d := minL_be (by omega) (by rw [hd0]; omega) (by omega)
  refine ⟨lenCode_ok (by simp only []; omega) (by simp only []; omega), by simp only []; omega, by simp only []; omega, ?_, rfl⟩
  simp only []
  rw [(len_long (n := ((be d : Nat) : Int)) (by omega) (by omega)).1, Int.toNat_natCast, hm, hdl, ← hk]
  rw [show (1 + (k : Int)).toNat = k + 1 from by omega]
  obtain ⟨x, t, rfl⟩ := cons_of h0
  rw [List.take_succ_cons, bt_cons0, ofI_byte]
  rw [List.drop_succ_cons, List.drop_zero] at hd
  rw [hd]
theorem rl_err (l : List UInt8) (h : (rl l).2.2.1 ≠ 0) : 0 < (rl l).2.2.1 ∧ 0 ≤ (rl l).2.2.2 ∧ (rl l).2.2.2 ≤ l.length := by
  have hb : (rl l).2.2.1 = 0 ∨ (0 < (rl l).2.2.1 ∧ 0 ≤ (rl l).2.2.2 ∧ (rl l).2.2.2 ≤ l.length) := by
    unfold rl
    by_cases c1 : l.length = 0
    · rw [if_pos c1]; right; simp
    rw [if_neg c1]
    by_cases c2 : bt l 0 < 128
    · rw [if_pos c2]; left; rfl
    rw [if_neg c2]
    by_cases c3 : bt l 0 = 128 ∨ 132 < bt l 0
    · rw [if_pos c3]; right; simp
    rw [if_neg c3]
    by_cases c4 : (l.length : Int) ≤ bt l 0 - 128
    · rw [if_pos c4]; right; simp
    rw [if_neg c4]
    split
    · right; simp
    · left; rfl
  rcases hb with hb | hb
  · exact absurd hb h
  · exact hb

theorem encCode_ok {c n : Int} {k : Nat} (h : encCode c n k = 0) : idCode c n = 0 ∧ lenCode k = 0 := by
  unfold encCode at h
  rcases idCode_01 c n with h1 | h1
  · rw [if_neg (by omega)] at h; exact ⟨h1, h⟩
  · rw [if_pos (by omega)] at h; omega
theorem encCode_mk {c n : Int} {k : Nat} (h : idCode c n = 0) (h2 : lenCode k = 0) : encCode c n k = 0 := by
  unfold encCode; rw [if_neg (by omega), h2]
theorem enc_len {c n : Int} {b : Bool} {l : List UInt8} (h : encCode c n l.length = 0) : (encL c b n l).length = 1 + (lenL l.length).length + l.length := by
  obtain ⟨h1, h2⟩ := encCode_ok h
  rw [(enc_ok b l h1 h2).1]; simp; omega

/-- the header of an element, written and read -/
theorem rh_enc {c n : Int} {b : Bool} {k : Nat} (h : idCode c n = 0) (h2 : lenCode k = 0) (more : List UInt8) :
    rh (ofI (idByte c b n) :: (lenL k ++ more)) = (⟨c, n, b, k, 1 + (lenL k).length⟩, 0, 0) := by
  obtain ⟨r1, r2, r3, r4⟩ := id_read (b := b) h
  obtain ⟨x0, x1⟩ := id_bd c b n
  have hb : bt (ofI (idByte c b n) :: (lenL k ++ more)) 0 = idByte c b n := by rw [bt_cons0, ofI_toNat x0 x1]
  unfold rh
  rw [if_neg (by simp), hb, if_neg (by omega), List.drop_succ_cons, List.drop_zero, (rl_len h2 more).1]
  simp only []
  rw [if_neg (by simp), r1, r2, r3]

/-- an element, written and read -/
theorem nx_enc {c n : Int} {b : Bool} {l : List UInt8} (h : encCode c n l.length = 0) (more : List UInt8) :
    nx (encL c b n l ++ more) = ⟨⟨c, n, b, l.length, 1 + (lenL l.length).length⟩, l, more, 0, 0⟩ := by
  obtain ⟨h1, h2⟩ := encCode_ok h
  have e : encL c b n l ++ more = ofI (idByte c b n) :: (lenL l.length ++ (l ++ more)) := by
    rw [(enc_ok b l h1 h2).1]; simp
  rw [e]
  have hr := rh_enc (b := b) h1 h2 (l ++ more)
  unfold nx
  rw [hr]
  simp only []
  rw [if_neg (by simp), if_neg (by simp; omega)]
  have e2 : (1 + ((lenL (l.length : Int)).length : Int)).toNat = (lenL (l.length : Int)).length + 1 := by omega
  rw [e2, Int.toNat_natCast, List.drop_succ_cons, List.drop_left]
  have e3 : (lenL (l.length : Int)).length + 1 + l.length = (lenL (l.length : Int)).length + l.length + 1 := by omega
  rw [e3, List.drop_succ_cons, ← List.append_assoc, List.take_left' rfl, List.drop_left' (by simp)]

theorem rh_ok {l : List UInt8} (h : (rh l).2.1 = 0) : l.length ≠ 0 ∧ ridE (bt l 0) = 0 ∧ (rl (l.drop 1)).2.2.1 = 0 ∧ rh l = (⟨ridC (bt l 0), ridN (bt l 0), ridB (bt l 0), (rl (l.drop 1)).1, 1 + (rl (l.drop 1)).2.1⟩, 0, 0) := by
  by_cases h0 : l.length = 0
  · unfold rh at h; rw [if_pos h0] at h; simp at h
  by_cases h1 : ridE (bt l 0) ≠ 0
  · unfold rh at h; rw [if_neg h0, if_pos h1] at h; simp at h
  by_cases h2 : (rl (l.drop 1)).2.2.1 ≠ 0
  · unfold rh at h; rw [if_neg h0, if_neg h1, if_pos h2] at h; simp only [] at h; omega
  refine ⟨h0, by omega, by omega, ?_⟩
  unfold rh; rw [if_neg h0, if_neg h1, if_neg h2]
/-- an element, read and written -/
theorem nx_back {l : List UInt8} (h : (nx l).code = 0) : encCode (nx l).hd.cls (nx l).hd.num (nx l).con.length = 0 ∧ encL (nx l).hd.cls (nx l).hd.cons (nx l).hd.num (nx l).con ++ (nx l).rest = l ∧ (nx l).off = 0 ∧
    (nx l).hd.len = (nx l).con.length ∧ (nx l).hd.size = 1 + (lenL (nx l).con.length).length := by
  by_cases g1 : (rh l).2.1 ≠ 0
  · unfold nx at h; rw [if_pos g1] at h; simp only [] at h; omega
  by_cases g2 : (l.length : Int) - (rh l).1.size < (rh l).1.len
  · unfold nx at h; rw [if_neg g1, if_pos g2] at h; simp at h
  have e : nx l = ⟨(rh l).1, (l.drop (rh l).1.size.toNat).take (rh l).1.len.toNat, l.drop ((rh l).1.size.toNat + (rh l).1.len.toNat), 0, 0⟩ := by unfold nx; rw [if_neg g1, if_neg g2]
  rw [e]
  simp only []
  obtain ⟨k0, k1, k2, k3⟩ := rh_ok (by omega : (rh l).2.1 = 0)
  obtain ⟨p1, p2, p3, p4, _⟩ := rl_read k2
  rw [k3] at g2 ⊢
  simp only [] at g2 ⊢
  obtain ⟨q0, _⟩ := w31 p1
  obtain ⟨m, hm⟩ := Int.eq_ofNat_of_zero_le q0
  obtain ⟨s, hs⟩ := Int.eq_ofNat_of_zero_le (show 0 ≤ (rl (l.drop 1)).2.1 from by omega)
  rw [hm] at p1 p4 g2 ⊢
  rw [hs] at p2 p3 p4 g2 ⊢
  rw [List.length_drop] at p3
  obtain ⟨b1, b2⟩ := id_back (bt_lo l 0) (bt_hi l 0) k1
  obtain ⟨x, t, rfl⟩ := cons_of k0
  rw [bt_cons0] at b1 b2 ⊢
  simp only [List.drop_succ_cons, List.drop_zero, List.length_cons, Int.toNat_natCast] at p3 p4 g2 ⊢
  have hs1 : (1 + (s : Int)).toNat = s + 1 := by omega
  rw [hs1]
  have hl : ((t.drop s).take m).length = m := by rw [List.length_take, List.length_drop]; omega
  have hll : (lenL (m : Int)).length = s := by rw [p4, List.length_take]; omega
  rw [List.drop_succ_cons, hl, show s + 1 + m = s + m + 1 from by omega, List.drop_succ_cons]
  have hc := encCode_mk b2 p1
  refine ⟨hc, ?_, (by first | trivial | rfl), (by first | trivial | rfl), by rw [hll]⟩
  rw [(enc_ok _ _ b2 (by rw [hl]; exact p1)).1, hl, p4, b1, ofI_byte]
  simp only [List.cons_append, List.append_assoc]
  rw [← List.drop_drop, List.take_append_drop, List.take_append_drop]
/-- an error of Next -/
theorem nx_err {l : List UInt8} (hl : l.length ≤ 140737488355328) (h : (nx l).code ≠ 0) : (nx l).hd = Hd.zero ∧ (nx l).con = [] ∧ (nx l).rest = [] ∧ 0 < (nx l).code ∧ 0 ≤ (nx l).off ∧ (nx l).off ≤ l.length := by
  obtain ⟨d1, d2, d3, d4, d5, d6, d7, d8⟩ := rh_bd l hl
  by_cases g1 : (rh l).2.1 ≠ 0
  · have e : nx l = ⟨Hd.zero, [], [], (rh l).2.1, (rh l).2.2⟩ := by unfold nx; rw [if_pos g1]
    rw [e]
    exact ⟨rfl, rfl, rfl, by show (0 : Int) < (rh l).2.1; omega, d7, d8⟩
  by_cases g2 : (l.length : Int) - (rh l).1.size < (rh l).1.len
  · have e : nx l = ⟨Hd.zero, [], [], 1, l.length⟩ := by unfold nx; rw [if_neg g1, if_pos g2]
    rw [e]
    exact ⟨rfl, rfl, rfl, by show (0 : Int) < 1; omega, by show (0 : Int) ≤ l.length; omega, Int.le_refl _⟩
  · unfold nx at h; rw [if_neg g1, if_neg g2] at h; simp at h
/-- of two elements none begins with the other one -/
theorem enc_prefix {c n c' n' : Int} {b b' : Bool} {l m r : List UInt8} (h : encCode c n l.length = 0) (h' : encCode c' n' m.length = 0) (e : encL c' b' n' m = encL c b n l ++ r) : c = c' ∧ n = n' ∧ b = b' ∧ l = m := by
  have h1 := nx_enc (b := b) h r
  have h2 := nx_enc (b := b') h' []
  rw [List.append_nil, e, h1] at h2
  injection h2 with g1 g2
  injection g1 with k1 k2 k3 k4 k5
  exact ⟨k1, k2, k3, g2⟩
theorem e2 (a b : List UInt8) (e : a = b.take a.length) : b = a ++ b.drop a.length := by
  have h := List.take_append_drop a.length b
  rw [← e] at h
  exact h.symm
/-- as the law asks it: cut to the shorter one -/
theorem enc_cut {c n c' n' : Int} {b b' : Bool} {l m : List UInt8} (h : encCode c n l.length = 0) (h' : encCode c' n' m.length = 0)
    (e : (encL c b n l).take (min (encL c b n l).length (encL c' b' n' m).length) = (encL c' b' n' m).take (min (encL c b n l).length (encL c' b' n' m).length)) : c = c' ∧ n = n' ∧ b = b' ∧ l = m := by
  rcases Nat.le_total (encL c b n l).length (encL c' b' n' m).length with hle | hle
  · rw [Nat.min_eq_left hle, List.take_of_length_le (Nat.le_refl _)] at e
    exact enc_prefix h h' (r := (encL c' b' n' m).drop (encL c b n l).length) (e2 _ _ e)
  · rw [Nat.min_eq_right hle, List.take_of_length_le (l := encL c' b' n' m) (Nat.le_refl _)] at e
    obtain ⟨h1, h2, h3, h4⟩ := enc_prefix h' h (r := (encL c b n l).drop (encL c' b' n' m).length) (e2 _ _ e.symm)
    exact ⟨h1.symm, h2.symm, h3.symm, h4.symm⟩
end Go.Proofs.Ytoomdaljdbennaa.Tlv
