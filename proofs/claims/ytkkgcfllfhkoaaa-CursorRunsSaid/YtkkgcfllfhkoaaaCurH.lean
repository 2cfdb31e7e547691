/- Walks: the cursor's methods Take (in one word), Rest, Byte, Seek. -/
import Derived.Test.YtkkgcfllfhkoaaaCurG
set_option linter.unusedSimpArgs false
set_option linter.unusedVariables false
namespace Go.Proofs.Ytkkgcfllfhkoaaa.Cur
open Go.RowKit Kit

/-- what Take does at position p of n bytes -/
def tkN (n p : Nat) (m : Int) : Nat := if 0 ≤ m ∧ m ≤ (n : Int) - p then m.toNat else 0
def tkCode (n p : Nat) (m : Int) : Int := if m < 0 then 9 else if (n : Int) - p < m then 1 else 0
def tkOff (n p : Nat) (m : Int) : Int := if m < 0 then p else if (n : Int) - p < m then n else 0
theorem tk_neg {n p : Nat} {m : Int} (h : m < 0) : tkN n p m = 0 ∧ tkCode n p m = 9 ∧ tkOff n p m = p := by
  unfold tkN tkCode tkOff; rw [if_neg (by omega), if_pos h, if_pos h]; simp
theorem tk_short {n p : Nat} {m : Int} (h0 : 0 ≤ m) (h : (n : Int) - p < m) : tkN n p m = 0 ∧ tkCode n p m = 1 ∧ tkOff n p m = n := by
  unfold tkN tkCode tkOff; rw [if_neg (by omega), if_neg (by omega), if_pos h, if_neg (by omega), if_pos h]; simp
theorem tk_ok {n p : Nat} {m : Int} (h0 : 0 ≤ m) (h : m ≤ (n : Int) - p) : tkN n p m = m.toNat ∧ tkCode n p m = 0 ∧ tkOff n p m = 0 := by
  unfold tkN tkCode tkOff; rw [if_pos (by omega), if_neg (by omega), if_neg (by omega), if_neg (by omega), if_neg (by omega)]; simp

theorem take_any {g : Nat} {A : Option Addr} {n c p : Nat} {l : List UInt8} (m : Int) (w : World) (h : Cu w g A n c p) (hr : Rd w w.heap.size A n l) (hc : n ≤ c) (hp : p ≤ n) (hn : n ≤ 140737488355328) (hcm : c ≤ maxLen) :
    Calls Try.prog 35 #[.pointer (some ⟨g, 0, none⟩), .int .i64 m] w fun e w' => ∃ A' c' k, k = tkN n p m ∧ e = .returned (.tuple #[.slice A' k c', err (tkCode n p m) (tkOff n p m)]) ∧
      Own w' w.heap.size A' k c' ((l.drop p).take k) ∧ w.grownBy w' (some g) ∧ Cu w' g A n c (p + k) := by
  have hn' : n ≤ maxLen := by unfold maxLen; omega
  by_cases h1 : m < 0
  · obtain ⟨e1, e2, e3⟩ := tk_neg (n := n) (p := p) h1
    refine (take_neg m w h h1).mono ?_
    rintro e w' ⟨rfl, hb⟩
    exact ⟨none, 0, 0, e1.symm, by rw [e2, e3], by simpa using Own.none_ _ _, grown_of_below hb _, h.below hb h.lt⟩
  · by_cases h2 : (n : Int) - p < m
    · obtain ⟨e1, e2, e3⟩ := tk_short (n := n) (p := p) (by omega) h2
      refine (take_short m w h hp hn' h2).mono ?_
      rintro e w' ⟨rfl, hb⟩
      exact ⟨none, 0, 0, e1.symm, by rw [e2, e3], by simpa using Own.none_ _ _, grown_of_below hb _, h.below hb h.lt⟩
    · obtain ⟨e1, e2, e3⟩ := tk_ok (n := n) (p := p) (m := m) (by omega) (by omega)
      by_cases h3 : m = 0
      · subst h3
        refine (take_zero w h hp hn').mono ?_
        rintro e w' ⟨rfl, hb⟩
        exact ⟨none, 0, 0, e1.symm, by rw [e2, e3], by simpa using Own.none_ _ _, grown_of_below hb _, h.below hb h.lt⟩
      · obtain ⟨k, rfl⟩ := Int.eq_ofNat_of_zero_le (by omega : 0 ≤ m)
        refine (take_pos w h hr hc hp hn hcm (by omega) (by omega)).mono ?_
        rintro e w' ⟨A', c', rfl, ho, hg, hcu⟩
        exact ⟨A', c', k, by rw [e1]; simp, by rw [e2, e3], ho, hg, hcu⟩

set_option maxHeartbeats 1000000 in
theorem rest_any {g : Nat} {A : Option Addr} {n c p : Nat} {l : List UInt8} (w : World) (h : Cu w g A n c p) (hr : Rd w w.heap.size A n l) (hc : n ≤ c) (hp : p ≤ n) (hn : n ≤ 140737488355328) (hcm : c ≤ maxLen) :
    Calls Try.prog 36 #[.pointer (some ⟨g, 0, none⟩)] w fun e w' => ∃ A' c', e = .returned (.slice A' (n - p) c') ∧ Own w' w.heap.size A' (n - p) c' (l.drop p) ∧ Below w.heap.size w w' := by
  have hcm' := hcm
  unfold maxLen at hcm'
  have c0 := h.cell0
  have c1 := h.cell1
  have q1 : (p : Int) ≤ (n : Int) := by omega
  have q2 : (p : Int) ≤ (c : Int) := by omega
  have hr' := hr.cut (k := p) (m := n) (cap := c) (by omega) (Nat.le_refl _) hc
  rw [List.take_of_length_le (by rw [List.length_drop, hr.len]; exact Nat.le_refl _)] at hr'
  simp only [Nat.mul_one] at hr'
  go_enter Try.func36, Try.ntmps36
  go_wp2_with fail
  refine Kit.wp_tail 9 (by kernel_rfl) (by kernel_rfl) ?_; intro W HW hWc; simp only [List.take_succ_cons, List.take_zero, List.drop_succ_cons, List.drop_zero]; (repeat still_step); refine wpStill_nil ?_; have HW' := HW.out; clear HW hWc; subst HW'
  go_wp2_with (first | (go_at_call 63; refine (clone_any _ _ _ _ _ (hr'.drewN 1) (by omega) (by simp)).mono ?_; rintro e w1 ⟨A', c', rfl, ho, hb⟩))
  all_goals
    go_ret
    exact ⟨A', c', rfl, ho.mono (by simp), ((Below.refl _ _).drew).trans hb⟩
theorem rest_nil (w : World) : Calls Try.prog 36 #[.pointer none] w fun e w' => e = .returned (.slice none 0 0) ∧ w = w' := by
  go_enter Try.func36, Try.ntmps36
  go_wp2_with fail
  go_ret
  exact ⟨rfl, rfl⟩

/-- what Byte returns -/
def byteV (n p : Nat) (l : List UInt8) : Int := if p < n then bt l p else 0

set_option maxHeartbeats 1000000 in
theorem byte_no {g : Nat} {A : Option Addr} {n c p : Nat} (w : World) (h : Cu w g A n c p) (hp : p = n) (hn : n ≤ maxLen) :
    Calls Try.prog 38 #[.pointer (some ⟨g, 0, none⟩)] w fun e w' => e = .returned (.tuple #[.int .u8 0, err 1 n]) ∧ Below w.heap.size w w' := by
  have hp' : p ≤ n := by omega
  have h1 : (n : Int) - p < 1 := by omega
  clear hp
  have hlt := h.lt
  go_enter Try.func38, Try.ntmps38
  go_wp2_with (first | (go_at_call 35; refine (take_short 1 _ (h.below (B := w.heap.size) (by repeat' (first | (with_reducible exact Below.refl _ _) | (with_reducible assumption) | (with_reducible refine below_drewN ?_ _) | (with_reducible refine Below.drew ?_) | (with_reducible refine Below.alloc ?_ ?_ _) | (with_reducible refine Below.setCell ?_ ?_ _) | go_size)) hlt) hp' hn h1).mono ?_; rintro e w1 ⟨rfl, hb⟩; obtain ⟨k0, k1, f0, f1, hz, hb'⟩ := two_new hb; clear hb))
  go_region
  go_wp2
  refine bodyPost_ret (v := .tuple #[.int .u8 0, err 1 n]) (by simp [results, Try.results38, go_sem, *]) rfl ?_
  exact ⟨rfl, (by repeat' (first | (with_reducible exact Below.refl _ _) | (with_reducible assumption) | (with_reducible refine below_drewN ?_ _) | (with_reducible refine Below.drew ?_) | (with_reducible refine Below.alloc ?_ ?_ _) | (with_reducible refine Below.setCell ?_ ?_ _) | go_size))⟩

/-- a block of two cells that the call has laid, behind a later call that changes one older block -/
theorem two_grown {w w1 : World} {x y : Value} {t : TypeId} {row : Option Nat} (hb : (w.alloc (.cells #[x, y] t)).grownBy w1 row) (hrow : some w.heap.size ≠ row) :
    w1.cell? ⟨w.heap.size, 0, none⟩ = some x ∧ w1.cell? ⟨w.heap.size, 1, none⟩ = some y ∧ w1.frozen? ⟨w.heap.size, 0, none⟩ = false ∧ w1.frozen? ⟨w.heap.size, 1, none⟩ = false ∧
      w.heap.size < w1.heap.size ∧ w.grownBy w1 row := by
  have h1 : w1.heap[w.heap.size]? = some (.cells #[x, y] t (0, 0)) := (hb.block _ (by simp) hrow).trans (heap_alloc_new w _)
  refine ⟨by rw [cell_of_row w1 _ 0 _ _ _ h1]; rfl, by rw [cell_of_row w1 _ 1 _ _ _ h1]; rfl, frozen_of_row w1 _ 0 _ _ h1, frozen_of_row w1 _ 1 _ _ h1, Blk_lt h1, ?_⟩
  exact ⟨hb.os, hb.tape, hb.output, by have := hb.size; simp at this; omega, fun i hi hne => (hb.block i (by simp; omega) hne).trans (Below.heap_alloc w _ i hi)⟩

set_option maxHeartbeats 1000000 in
theorem byte_ok {g : Nat} {A : Option Addr} {n c p : Nat} {l : List UInt8} (w : World) (h : Cu w g A n c p) (hr : Rd w w.heap.size A n l) (hc : n ≤ c) (hp : p < n) (hn : n ≤ 140737488355328) (hcm : c ≤ maxLen) :
    Calls Try.prog 38 #[.pointer (some ⟨g, 0, none⟩)] w fun e w' => e = .returned (.tuple #[.int .u8 (bt l p), err 0 0]) ∧ w.grownBy w' (some g) ∧ Cu w' g A n c (p + 1) := by
  have hlt := h.lt
  have hne : some w.heap.size ≠ some g := fun e => by injection e with e; omega
  go_enter Try.func38, Try.ntmps38
  go_wp2_with (first | (go_at_call 35; refine (take_pos (m := 1) _ (h.below (B := w.heap.size) (by repeat' (first | (with_reducible exact Below.refl _ _) | (with_reducible assumption) | (with_reducible refine below_drewN ?_ _) | (with_reducible refine Below.drew ?_) | (with_reducible refine Below.alloc ?_ ?_ _) | (with_reducible refine Below.setCell ?_ ?_ _) | go_size)) hlt) ((hr.alloc (Nat.le_refl _) _).more (by simp)) hc (by omega) hn hcm (by omega) (by omega)).mono ?_; rintro e w1 ⟨A', c', rfl, ho, hg, hcu⟩; obtain ⟨k0, k1, f0, f1, hz, hg'⟩ := two_grown hg hne; obtain ⟨ad, rfl, hbl, hcell⟩ := ho.rd.at0 (by omega); clear hg))
  have hv : bt ((l.drop p).take 1) 0 = bt l p := by rw [bt_take (by omega), bt_drop]; rfl
  have hca : (w1.alloc (Obj.cells #[Value.int IntKind.i64 0, Value.int IntKind.i64 0] 46)).cell? ad = some (.int .u8 (bt l p)) := by rw [World.cell?_alloc_lt w1 _ ad hbl, hcell, hv]
  go_region
  go_wp2
  refine bodyPost_ret (v := .tuple #[.int .u8 (bt l p), err 0 0]) (by simp [results, Try.results38, go_sem, *]) rfl ?_
  refine ⟨rfl, ?_, ?_⟩
  · exact (by repeat' (first | (with_reducible assumption) | (with_reducible exact World.grownBy.refl _ _) | (with_reducible refine grown_drewN ?_ _) | (with_reducible refine grown_drew ?_) | (with_reducible refine grown_alloc ?_ _) | (with_reducible refine grown_set ?_ _ _) | (with_reducible refine grown_setNew ?_ ?_ _) | go_size))
  · exact (by repeat' (first | (with_reducible assumption) | (with_reducible refine Cu.drewN ?_ _) | (with_reducible refine Cu.drew ?_) | (with_reducible refine Cu.alloc ?_ _) | (with_reducible refine Cu.set (p := p) ?_ _) | (with_reducible refine Cu.far ?_ ?_ _) | (simp; omega) | omega))
end Go.Proofs.Ytkkgcfllfhkoaaa.Cur
